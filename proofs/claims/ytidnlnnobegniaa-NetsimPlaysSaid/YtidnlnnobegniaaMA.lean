import Derived.Test.YtidnlnnobegniaaA10b
import Derived.MapKept
import Derived.WideKeyRuns
import Derived.Laws.IdiomRangeMap
set_option linter.unusedVariables false
set_option linter.unusedSimpArgs false
namespace Go.AM
open Go.RowKit

/-! ### M0. Maps by pairs of numbers, in a world -/
def pairT (P : Program) (k : TypeId) : Bool :=
  match tinfo P k with
  | some i => match i.k with
    | .struct fs => i.eqok && fieldsPlain 0 fs && kindsOK P fs [.int .i64 0, .int .i64 0]
    | _ => false
  | none => false

structure PairT (P : Program) (k : TypeId) : Prop where
  eq : ∀ w a b c d, (Op.equal k (pairV a b) (pairV c d)).run P w = .ok (decide (a = c ∧ b = d)) w
  check : ∀ w em a b, (Instr.checkKey em 10000 k (pairV a b)).run P w = .ok () w
  find : ∀ w x es, (Instr.findKey k x es).run P w = (Instr.findAsking k x es).run P w

theorem kinds_pair {P : Program} {fs : List (Nat × TypeId)} (h : kindsOK P fs [.int .i64 0, .int .i64 0] = true) (a b : Int) : kindsOK P fs [.int .i64 a, .int .i64 b] = true := by
  match fs, h with
  | [], h => simp [kindsOK] at h
  | [_], h => simp [kindsOK] at h
  | [(o1, t1), (o2, t2)], h =>
    simp only [kindsOK, Bool.and_eq_true] at h ⊢
    refine ⟨?_, ?_, trivial⟩
    · have h1 := h.1
      split at h1
      · rename_i j hj
        simp only [Bool.and_eq_true] at h1 ⊢
        refine ⟨h1.1, ?_⟩
        have h2 := h1.2
        cases hk : j.k <;> rw [hk] at h2 <;> simp_all
      · simp at h1
    · have h1 := h.2.1
      split at h1
      · rename_i j hj
        simp only [Bool.and_eq_true] at h1 ⊢
        refine ⟨h1.1, ?_⟩
        have h2 := h1.2
        cases hk : j.k <;> rw [hk] at h2 <;> simp_all
      · simp at h1
  | _ :: _ :: _ :: _, h => simp [kindsOK] at h

theorem pairT_spec {P : Program} {k : TypeId} (h : pairT P k = true) : PairT P k := by
  unfold pairT at h
  split at h
  case h_2 => simp at h
  rename_i i hi
  split at h
  case h_2 => simp at h
  rename_i fs hk
  simp only [Bool.and_eq_true] at h
  obtain ⟨⟨hq, hp⟩, hkk⟩ := h
  obtain ⟨inf, d, zz, hs⟩ := tinfo_spec hi
  have hkd := hs.k
  rw [hk] at hkd
  have hqd := hs.eqok
  rw [hq] at hqd
  cases d <;> simp only [tkOf, TK.struct.injEq, reduceCtorEq] at hkd
  rename_i fsA
  subst hkd
  simp only [eqokOf, Bool.and_eq_true, Bool.not_eq_true', Array.all_eq_true', bne_iff_ne, ne_eq] at hqd
  obtain ⟨⟨hnm, hsi⟩, hgt⟩ := hqd
  have hfo : P.fieldsOf k = fsA := by simp [Program.fieldsOf, hs.und]
  have hund : P.underlying k = some (.struct (P.fieldsOf k)) := by rw [hfo]; exact hs.und
  obtain ⟨l1, a1, _⟩ := kindsOK_spec hkk
  refine ⟨fun w a b c d => ?_, fun w em a b => ?_, fun w x es => ?_⟩
  · obtain ⟨_, _, b1⟩ := kindsOK_spec (kinds_pair hkk a b)
    obtain ⟨_, _, b2⟩ := kindsOK_spec (kinds_pair hkk c d)
    show (Op.equalIn 10000 k _ _).run P w = _
    unfold pairV
    rw [run_equalIn_agg w 9999 k _ _ hund hsi, hfo]
    refine run_eqFields 9998 w fsA.toList 0 _ _ _ (fun f hf => hnm f (by simpa using hf)) hp ?_ ?_ ?_ ?_ ?_
    · intro f hf; exact a1 (f.offset, f.type) (List.mem_map.2 ⟨f, hf, rfl⟩)
    · simpa using l1
    · simpa using l1
    · simp only [List.drop_zero, eqAll, List.zip_cons_cons, List.zip_nil_left, if_true, Option.map_some, Option.some.injEq]
      by_cases h1 : a = c <;> by_cases h2 : b = d <;> simp [h1, h2]
    · intro i f v hf hv j hj
      have hfm : (fsA.toList.map fun f => (f.offset, f.type))[i]? = some (f.offset, f.type) := by rw [List.getElem?_map, hf]; rfl
      rcases hv with hv | hv
      · exact b1 i _ v hfm (by simpa using hv) j hj
      · exact b2 i _ v hfm (by simpa using hv) j hj
  · obtain ⟨_, _, b1⟩ := kindsOK_spec (kinds_pair hkk a b)
    have hlen : fsA.toList.length = 2 := by simpa using l1.symm
    unfold pairV
    rw [show (10000 : Nat) = 9999 + 1 from rfl, Instr.checkKey]
    simp only [Sem.run_bind, run_underlying hs.und, Result.andThen_ok]
    rw [← Array.forIn_toList]
    have each : ∀ f, f ∈ fsA.toList → f.name ≠ "_" ∧ ∃ v, (part f.type #[.int .i64 a, .int .i64 b] f.offset).run P w = .ok v w ∧ (Instr.checkKey em 9999 f.type v).run P w = .ok () w := by
      intro f hf
      refine ⟨hnm f (by simpa using hf), ?_⟩
      obtain ⟨ix, hix, hfe⟩ := List.mem_iff_getElem.1 hf
      have hix2 : ix < 2 := by omega
      have hoff : f.offset = ix := by
        match hL : fsA.toList, hlen with
        | [f1, f2], _ =>
          rw [hL] at hp
          simp only [List.map_cons, List.map_nil, fieldsPlain, Bool.and_eq_true, beq_iff_eq] at hp
          simp only [hL] at hfe
          match ix, hix2 with
          | 0, _ => simp at hfe; rw [← hfe]; exact hp.1
          | 1, _ => simp at hfe; rw [← hfe]; simpa using hp.2.1
      obtain ⟨j, hj, hjk, hja⟩ := a1 (f.offset, f.type) (List.mem_map.2 ⟨f, hf, rfl⟩)
      obtain ⟨_, dd, _, hsj⟩ := tinfo_spec hj
      have hv : ∃ v, (#[Value.int .i64 a, .int .i64 b] : Array Value)[ix]? = some v := by
        match ix, hix2 with
        | 0, _ => exact ⟨_, rfl⟩
        | 1, _ => exact ⟨_, rfl⟩
      obtain ⟨v, hv⟩ := hv
      have hpx : (part f.type #[.int .i64 a, .int .i64 b] f.offset).run P w = .ok v w := by
        simp only [part, Sem.run_bind, hsj.run_agg, hja, Result.andThen_ok, Bool.false_eq_true, if_false, hoff, hv, Sem.run_pure]
      refine ⟨v, hpx, ?_⟩
      have hd := hsj.k
      rw [show (9999 : Nat) = 9998 + 1 from rfl, Instr.checkKey]
      simp only [Sem.run_bind, run_underlying hsj.und, Result.andThen_ok]
      rcases hjk with ⟨q, hjk⟩ | hjk
      · rw [hjk] at hd
        cases dd <;> simp [tkOf] at hd
        simp
      · rw [hjk] at hd
        cases dd <;> simp [tkOf] at hd
        simp
    generalize fsA.toList = L at each
    clear hlen
    induction L with
    | nil => simp
    | cons f L ih =>
      obtain ⟨hn, v, p1, p2⟩ := each f (by simp)
      simp only [List.forIn_cons, Sem.run_bind, hn, ne_eq, not_false_eq_true, if_true, Result.andThen_ok, p1, p2, Sem.run_pure]
      exact ih fun y hy => each y (by simp [hy])
  · exact run_findKey_eq w (by rw [hs.und]) x es

theorem same_pair (a b : Int) : Instr.sameBits 10000 (pairV a b) (pairV a b) = true := by
  show Instr.sameBits (9999 + 1) _ _ = true
  simp [Instr.sameBits, pairV]

theorem run_stays (P : Program) (w : World) (a b : Int) : (Instr.keyThatStays (pairV a b) (pairV a b)).run P w = .ok (pairV a b) w := by
  simp [Instr.keyThatStays, same_pair]

/-- Looking for a pair in a list of entries. -/
theorem run_find {P : Program} {k : TypeId} (hk : PairT P k) (w : World) (a b : Int) : ∀ (es : List MapEntry) (i : Nat), (∀ en, en ∈ es → ∃ c d, en.key = pairV c d) →
    ((Instr.findAsking k (pairV a b) es i).run P w = .ok none w ∧ ∀ en, en ∈ es → en.key ≠ pairV a b) ∨
    ∃ j en, (Instr.findAsking k (pairV a b) es i).run P w = .ok (some (i + j, en.val)) w ∧ es[j]? = some en ∧ en.key = pairV a b
  | [], i, _ => .inl ⟨by simp [Instr.findAsking], by simp⟩
  | e :: es, i, h => by
    obtain ⟨c, d, hcd⟩ := h e (by simp)
    have he := hk.eq w a b c d
    rw [← hcd] at he
    by_cases hab : a = c ∧ b = d
    · refine .inr ⟨0, e, ?_, rfl, by rw [hcd, hab.1, hab.2]⟩
      rw [decide_eq_true hab] at he
      simp [Instr.findAsking, he]
    · rw [decide_eq_false hab] at he
      rcases run_find hk w a b es (i + 1) (fun en hen => h en (by simp [hen])) with ⟨h1, h2⟩ | ⟨j, en, h1, h2, h3⟩
      · refine .inl ⟨by simp [Instr.findAsking, he, h1], fun en hen => ?_⟩
        rcases List.mem_cons.1 hen with rfl | hen
        · rw [hcd]; intro e2; rw [pairV_inj] at e2; exact hab ⟨e2.1.symm, e2.2.symm⟩
        · exact h2 en hen
      · refine .inr ⟨j + 1, en, ?_, by simpa using h2, h3⟩
        simp [Instr.findAsking, he, h1]
        omega

variable {P : Program} {w : World} {r : Nat} {M : MapM} {mt kt et : TypeId} {a b : Int}

/-- What is found. -/
theorem MapE.find {es : List MapEntry} {clock : Nat} (hM : MapE es clock M) {k : TypeId} (hk : PairT P k) (w : World) (a b : Int) :
    (M a b = none ∧ (Instr.findKey k (pairV a b) es).run P w = .ok none w ∧ ∀ en, en ∈ es → en.key ≠ pairV a b) ∨
    ∃ j en, M a b = some (en.val, en.born) ∧ (Instr.findKey k (pairV a b) es).run P w = .ok (some (j, en.val)) w ∧ es[j]? = some en ∧ en.key = pairV a b := by
  rw [hk.find]
  rcases run_find hk w a b es 0 (fun en hen => let ⟨c, d, h, _⟩ := hM.key en hen; ⟨c, d, h⟩) with ⟨h1, h2⟩ | ⟨j, en, h1, h2, h3⟩
  · refine .inl ⟨?_, h1, h2⟩
    cases hm : M a b with
    | none => rfl
    | some x =>
      obtain ⟨en, h3, h4⟩ := hM.all a b x hm
      exact absurd h4 (h2 en h3)
  · obtain ⟨c, d, h4, h5⟩ := hM.key en (List.mem_of_getElem? h2)
    rw [h3, pairV_inj] at h4
    obtain ⟨rfl, rfl⟩ := h4
    exact .inr ⟨j, en, h5, by simpa using h1, h2, h3⟩

def updM (M : MapM) (a b : Int) (x : Option (Value × Nat)) : MapM := fun c d => if c = a ∧ d = b then x else M c d
theorem updM_same (M : MapM) (a b : Int) (x : Option (Value × Nat)) : updM M a b x a b = x := by simp [updM]
theorem updM_ne (M : MapM) {a b c d : Int} (x : Option (Value × Nat)) (h : ¬ (c = a ∧ d = b)) : updM M a b x c d = M c d := by simp [updM, h]

/-- One entry is changed. -/
theorem MapE.set {es : List MapEntry} {clock : Nat} (hM : MapE es clock M) {j : Nat} {en : MapEntry} (hj : es[j]? = some en) (hkey : en.key = pairV a b) (v : Value) :
    MapE (es.set j { key := pairV a b, val := v, born := en.born }) clock (updM M a b (some (v, en.born))) := by
  have hjl : j < es.length := (List.getElem?_eq_some_iff.1 hj).1
  have hje : es[j] = en := (List.getElem?_eq_some_iff.1 hj).2
  have hks : (es.set j { key := pairV a b, val := v, born := en.born }).map (·.key) = es.map (·.key) := by
    rw [List.map_set]
    apply List.ext_getElem?
    intro i
    rw [List.getElem?_set]
    split
    · rename_i e; subst e; simp [hje, hkey, hjl]
    · rfl
  have hbs : (es.set j { key := pairV a b, val := v, born := en.born }).map (·.born) = es.map (·.born) := by
    rw [List.map_set]
    apply List.ext_getElem?
    intro i
    rw [List.getElem?_set]
    split
    · rename_i e; subst e; simp [hje, hjl]
    · rfl
  have hnd := hM.nodup
  have hbd := hM.bnodup
  refine ⟨?_, ?_, ?_, ?_, ?_⟩
  · intro x hx
    obtain ⟨i, hi, hxe⟩ := List.mem_iff_getElem.1 hx
    rw [List.getElem_set] at hxe
    split at hxe
    · subst hxe; exact ⟨a, b, rfl, updM_same _ _ _ _⟩
    · rename_i hne
      have hi' : i < es.length := by simpa using hi
      obtain ⟨c, d, h1, h2⟩ := hM.key es[i] (List.getElem_mem hi')
      subst hxe
      refine ⟨c, d, h1, ?_⟩
      rw [updM_ne]
      · exact h2
      · rintro ⟨rfl, rfl⟩
        have hkk : (es[i]).key = (es[j]).key := by rw [h1, hje, hkey]
        rcases Nat.lt_or_gt_of_ne hne with hlt | hlt
        · exact (List.pairwise_iff_getElem.1 hnd j i hjl hi' hlt) hkk.symm
        · exact (List.pairwise_iff_getElem.1 hnd i j hi' hjl hlt) hkk
  · intro c d x hx
    have hmem : ∀ K, K ∈ es.map (·.key) → ∃ en', en' ∈ es.set j { key := pairV a b, val := v, born := en.born } ∧ en'.key = K := by
      intro K hK
      rw [← hks] at hK
      obtain ⟨en', h1, h2⟩ := List.mem_map.1 hK
      exact ⟨en', h1, h2⟩
    by_cases hcd : c = a ∧ d = b
    · obtain ⟨rfl, rfl⟩ := hcd
      exact hmem _ (List.mem_map.2 ⟨en, List.mem_of_getElem? hj, hkey⟩)
    · rw [updM_ne _ _ hcd] at hx
      obtain ⟨en', h1, h2⟩ := hM.all c d x hx
      exact hmem _ (List.mem_map.2 ⟨en', h1, h2⟩)
  · have := (List.pairwise_map (f := fun e : MapEntry => e.key) (R := fun x y => x ≠ y) (l := es)).2 hnd
    rw [← hks] at this
    exact List.pairwise_map.1 this
  · intro x hx
    have : x.born ∈ es.map (·.born) := by rw [← hbs]; exact List.mem_map.2 ⟨x, hx, rfl⟩
    obtain ⟨y, h1, h2⟩ := List.mem_map.1 this
    rw [← h2]; exact hM.born y h1
  · have := (List.pairwise_map (f := fun e : MapEntry => e.born) (R := fun x y => x ≠ y) (l := es)).2 hbd
    rw [← hbs] at this
    exact List.pairwise_map.1 this

/-- One entry comes. -/
theorem MapE.push {es : List MapEntry} {clock : Nat} (hM : MapE es clock M) (hno : ∀ en, en ∈ es → en.key ≠ pairV a b) (v : Value) :
    MapE (es ++ [{ key := pairV a b, val := v, born := clock }]) (clock + 1) (updM M a b (some (v, clock))) := by
  refine ⟨?_, ?_, ?_, ?_, ?_⟩
  · intro x hx
    rcases List.mem_append.1 hx with hx' | hx'
    · obtain ⟨c, d, h1, h2⟩ := hM.key x hx'
      refine ⟨c, d, h1, ?_⟩
      rw [updM_ne]
      · exact h2
      · rintro ⟨rfl, rfl⟩; exact hno x hx' h1
    · simp at hx'; subst hx'; exact ⟨a, b, rfl, updM_same _ _ _ _⟩
  · intro c d x hx
    by_cases hcd : c = a ∧ d = b
    · obtain ⟨rfl, rfl⟩ := hcd
      exact ⟨⟨pairV c d, v, clock⟩, List.mem_append_right _ (List.mem_singleton.2 rfl), rfl⟩
    · rw [updM_ne _ _ hcd] at hx
      obtain ⟨en', h1, h2⟩ := hM.all c d x hx
      exact ⟨en', List.mem_append_left _ h1, h2⟩
  · refine List.pairwise_append.2 ⟨hM.nodup, by simp, fun x hx y hy => ?_⟩
    simp at hy; subst hy; exact hno x hx
  · intro x hx
    rcases List.mem_append.1 hx with hx | hx
    · have := hM.born x hx; omega
    · simp at hx; subst hx; simp
  · refine List.pairwise_append.2 ⟨hM.bnodup, by simp, fun x hx y hy => ?_⟩
    simp at hy; subst hy
    have := hM.born x hx
    simp; omega

/-- One entry goes. -/
theorem MapE.erase {es : List MapEntry} {clock : Nat} (hM : MapE es clock M) {j : Nat} {en : MapEntry} (hj : es[j]? = some en) (hkey : en.key = pairV a b) :
    MapE (es.eraseIdx j) clock (updM M a b none) := by
  have hjl : j < es.length := (List.getElem?_eq_some_iff.1 hj).1
  have hje : es[j] = en := (List.getElem?_eq_some_iff.1 hj).2
  have hsub := List.eraseIdx_sublist es j
  have hmem : ∀ x, x ∈ es.eraseIdx j → x.key ≠ pairV a b := by
    intro x hx
    obtain ⟨i, hne, hi, hxe⟩ := List.mem_eraseIdx_iff_getElem.1 hx
    intro hk
    have hkk : (es[i]).key = (es[j]).key := by rw [hxe, hk, hje, hkey]
    rcases Nat.lt_or_gt_of_ne hi with hlt | hlt
    · exact (List.pairwise_iff_getElem.1 hM.nodup i j hne hjl hlt) hkk
    · exact (List.pairwise_iff_getElem.1 hM.nodup j i hjl hne hlt) hkk.symm
  refine ⟨?_, ?_, hM.nodup.sublist hsub, fun x hx => hM.born x (hsub.subset hx), hM.bnodup.sublist hsub⟩
  · intro x hx
    obtain ⟨c, d, h1, h2⟩ := hM.key x (hsub.subset hx)
    refine ⟨c, d, h1, ?_⟩
    rw [updM_ne]
    · exact h2
    · rintro ⟨rfl, rfl⟩; exact hmem x hx h1
  · intro c d x hx
    by_cases hcd : c = a ∧ d = b
    · obtain ⟨rfl, rfl⟩ := hcd
      rw [updM_same] at hx; simp at hx
    · rw [updM_ne _ _ hcd] at hx
      obtain ⟨en', h1, h2⟩ := hM.all c d x hx
      refine ⟨en', ?_, h2⟩
      obtain ⟨i, hi, hie⟩ := List.mem_iff_getElem.1 h1
      refine List.mem_eraseIdx_iff_getElem.2 ⟨i, hi, ?_, hie⟩
      rintro rfl
      rw [← hie, hje, hkey, pairV_inj] at h2
      exact hcd ⟨h2.1.symm, h2.2.symm⟩

theorem MapE.none {clock : Nat} : MapE [] clock (fun _ _ => Option.none) := ⟨by simp, by simp, by simp, by simp, by simp⟩
end Go.AM
set_option linter.unusedVariables false
set_option linter.unusedSimpArgs false
namespace Go.AM
open Go.RowKit

def setMap (w : World) (r : Nat) (o : Obj) : World := { w with heap := w.heap.setIfInBounds r o }
theorem setMap_other (w : World) {r b : Nat} (o : Obj) (h : b ≠ r) : (setMap w r o).heap[b]? = w.heap[b]? := by simp [setMap, Ne.symm h]
theorem setMap_same {w : World} {r : Nat} {o o' : Obj} (h : w.heap[r]? = some o') : (setMap w r o).heap[r]? = some o := by simp [setMap, lt_of_heap h]
theorem setMap_size (w : World) (r : Nat) (o : Obj) : (setMap w r o).heap.size = w.heap.size := by simp [setMap]

variable {P : Program} {w : World} {r : Nat} {M : MapM} {mt kt et : TypeId} {a b : Int} {z v : Value}

theorem run_getMap {es : Array MapEntry} {clock : Nat} (h : w.heap[r]? = some (.map es clock)) : (getObj r).run P w = .ok (.map es clock) w := by simp [getObj, Sem.run, h]
theorem run_setMap {es : Array MapEntry} {clock : Nat} (o : Obj) (h : w.heap[r]? = some (.map es clock)) : (setObj r o).run P w = .ok () (setMap w r o) := MapKept.run_setObj_map o h

theorem run_lookup (ht : P.underlying mt = some (.map kt et)) (hk : PairT P kt) (hz : (zeroValue et).run P w = .ok z w) (hM : MapIs w r M) :
    (Instr.lookup mt (.map (some r)) (pairV a b) false).run P w = .ok (match M a b with | some x => x.1 | none => z) w := by
  obtain ⟨es, clock, hb, hE⟩ := hM
  simp only [Instr.lookup, Sem.run_bind, run_underlying ht, Result.andThen_ok, run_getMap hb, Sem.run_pure, hk.check]
  rcases hE.find hk w a b with ⟨h1, h2, _⟩ | ⟨j, en, h1, h2, _⟩
  · simp [h1, h2, hz]
  · simp [h1, h2]

theorem MapIs.put {es : Array MapEntry} {clock : Nat} {M' : MapM} {es' : Array MapEntry} {clock' : Nat} (h : w.heap[r]? = some (.map es clock)) (hE : MapE es'.toList clock' M') : MapIs (setMap w r (.map es' clock')) r M' :=
  ⟨es', clock', setMap_same h, hE⟩

theorem modify_list (es : Array MapEntry) (j : Nat) {en : MapEntry} (hj : es.toList[j]? = some en) (f : MapEntry → MapEntry) : (es.modify j f).toList = es.toList.set j (f en) := by
  have hjl : j < es.size := by have := (List.getElem?_eq_some_iff.1 hj).1; simpa using this
  apply List.ext_getElem?
  intro i
  rw [List.getElem?_set]
  simp only [Array.getElem?_toList, Array.getElem?_modify]
  have hje : es[j]? = some en := by simpa using hj
  split
  · rename_i e; subst e
    have : es[j] = en := by simpa [hjl] using hje
    simp [hjl, this]
  · rename_i e
    rfl

theorem run_mapUpdate (ht : P.underlying mt = some (.map kt et)) (hk : PairT P kt) (hM : MapIs w r M) (v : Value) :
    ∃ o n, (Instr.mapUpdate mt (.map (some r)) (pairV a b) v).run P w = .ok () (setMap w r o) ∧ MapIs (setMap w r o) r (updM M a b (some (v, n))) := by
  obtain ⟨es, clock, hb, hE⟩ := hM
  rcases hE.find hk w a b with ⟨h1, h2, h3⟩ | ⟨j, en, h1, h2, h3, h4⟩
  · refine ⟨.map (es.push { key := pairV a b, val := v, born := clock }) (clock + 1), clock, ?_, MapIs.put hb ?_⟩
    · simp only [Instr.mapUpdate, Sem.run_bind, run_underlying ht, Result.andThen_ok, run_getMap hb, hk.check, h2, run_setMap _ hb]
    · have := hE.push h3 v
      simpa using this
  · have hje : es[j]? = some en := by simpa using h3
    refine ⟨.map (es.modify j fun e => { e with key := pairV a b, val := v }) clock, en.born, ?_, MapIs.put hb ?_⟩
    · simp only [Instr.mapUpdate, Sem.run_bind, run_underlying ht, Result.andThen_ok, run_getMap hb, hk.check, h2, hje, Option.map_some, Option.getD_some, h4, run_stays, run_setMap _ hb]
    · have := hE.set h3 h4 v
      rw [modify_list es j h3]
      exact this

theorem run_mapEntry (ht : P.underlying mt = some (.map kt et)) (hk : PairT P kt) (hz : (zeroValue et).run P w = .ok z w) (hM : MapIs w r M) :
    ∃ o n, (Instr.mapEntry mt (.map (some r)) (pairV a b)).run P w = .ok (.tuple #[match M a b with | some x => x.1 | none => z, .int .i64 (n : Nat)]) (setMap w r o) ∧ MapIs (setMap w r o) r (updM M a b (some (match M a b with | some x => x.1 | none => z, n))) := by
  obtain ⟨es, clock, hb, hE⟩ := hM
  rcases hE.find hk w a b with ⟨h1, h2, h3⟩ | ⟨j, en, h1, h2, h3, h4⟩
  · refine ⟨.map (es.push { key := pairV a b, val := z, born := clock }) (clock + 1), clock, ?_, MapIs.put hb ?_⟩
    · simp only [Instr.mapEntry, Sem.run_bind, run_underlying ht, Result.andThen_ok, run_getMap hb, hk.check, h2, hz, run_setMap _ hb, h1, Sem.run_pure, goInt]
    · have := hE.push h3 z
      rw [h1]
      simpa using this
  · have hje : es[j]? = some en := by simpa using h3
    refine ⟨.map (es.modify j fun e => { e with key := pairV a b }) clock, en.born, ?_, MapIs.put hb ?_⟩
    · simp only [Instr.mapEntry, Sem.run_bind, run_underlying ht, Result.andThen_ok, run_getMap hb, hk.check, h2, hje, Option.map_some, Option.getD_some, h4, run_stays, run_setMap _ hb, h1, Sem.run_pure, goInt]
    · have := hE.set h3 h4 en.val
      rw [modify_list es j h3, h1]
      exact this

theorem run_entryStore {n : Nat} {u : Value} (hM : MapIs w r M) (hab : M a b = some (u, n)) (v : Value) :
    ∃ o, (Instr.entryStore mt (.map (some r)) (.int .i64 n) v).run P w = .ok () (setMap w r o) ∧ MapIs (setMap w r o) r (updM M a b (some (v, n))) := by
  obtain ⟨es, clock, hb, hE⟩ := hM
  obtain ⟨en, h1, h2⟩ := hE.all a b _ hab
  obtain ⟨c, d, h3, h4⟩ := hE.key en h1
  rw [h2, pairV_inj] at h3
  obtain ⟨rfl, rfl⟩ := h3
  rw [hab] at h4
  simp only [Option.some.injEq, Prod.mk.injEq] at h4
  obtain ⟨h4, h5⟩ := h4
  obtain ⟨j, hj, hje⟩ := List.mem_iff_getElem.1 h1
  have hjs : j < es.size := by simpa using hj
  have hjq : es.toList[j]? = some en := by rw [List.getElem?_eq_getElem hj, hje]
  have hfi : es.findIdx? (fun e => (e.born : Int) == (n : Int)) = some j := by
    rw [Array.findIdx?_eq_some_iff_getElem]
    refine ⟨hjs, ?_, ?_⟩
    · have : es[j] = en := by simpa using hje
      rw [this, h5]; simp
    · intro i hi
      have his : i < es.size := by omega
      have := List.pairwise_iff_getElem.1 hE.bnodup i j (by simpa using his) hj hi
      simp only [Array.getElem_toList] at this hje
      rw [hje] at this
      simp only [beq_iff_eq, Bool.not_eq_true, beq_eq_false_iff_ne, ne_eq]
      intro e
      exact this (by omega)
  refine ⟨.map (es.modify j fun e => { e with val := v }) clock, ?_, MapIs.put hb ?_⟩
  · simp only [Instr.entryStore, Sem.run_bind, run_getMap hb, Result.andThen_ok, asInt, asIntOf, Sem.run_pure, hfi, run_setMap _ hb]
  · have := hE.set hjq h2 v
    rw [modify_list es j hjq, h5]
    have e : ({ en with val := v } : MapEntry) = { key := pairV a b, val := v, born := en.born } := by rw [← h2]
    rw [e]
    exact this

theorem run_delete (ht : P.underlying mt = some (.map kt et)) (hk : PairT P kt) (hM : MapIs w r M) (t2 ty : TypeId) :
    ∃ o, (Builtin.delete_ #[mt, t2] ty #[.map (some r), pairV a b]).run P w = .ok (.tuple #[]) (setMap w r o) ∧ MapIs (setMap w r o) r (updM M a b none) := by
  obtain ⟨es, clock, hb, hE⟩ := hM
  rcases hE.find hk w a b with ⟨h1, h2, h3⟩ | ⟨j, en, h1, h2, h3, h4⟩
  · refine ⟨.map es clock, ?_, MapIs.put hb ?_⟩
    · simp [Builtin.delete_, run_underlying ht, run_getMap hb, hk.check, h2, run_setMap _ hb]
    · have e : updM M a b none = M := by
        funext c d
        by_cases hcd : c = a ∧ d = b
        · obtain ⟨rfl, rfl⟩ := hcd; rw [updM_same, h1]
        · exact updM_ne _ _ hcd
      rw [e]; exact hE
  · have hj : j < es.size := by have := (List.getElem?_eq_some_iff.1 h3).1; simpa using this
    refine ⟨.map (es.eraseIdxIfInBounds j) clock, ?_, MapIs.put hb ?_⟩
    · simp [Builtin.delete_, run_underlying ht, run_getMap hb, hk.check, h2, run_setMap _ hb]
    · have := hE.erase h3 h4
      have e : (es.eraseIdxIfInBounds j).toList = es.toList.eraseIdx j := by
        simp [Array.eraseIdxIfInBounds, hj, Array.toList_eraseIdx]
      rw [e]; exact this

theorem run_clear {M : MapM} (ht : P.underlying mt = some (.map kt et)) (hM : MapIs w r M) (ty : TypeId) :
    ∃ o, (Builtin.clear_ #[mt] ty #[.map (some r)]).run P w = .ok (.tuple #[]) (setMap w r o) ∧ MapIs (setMap w r o) r (fun _ _ => none) := by
  obtain ⟨es, clock, hb, hE⟩ := hM
  refine ⟨.map #[] clock, ?_, MapIs.put hb MapE.none⟩
  simp [Builtin.clear_, run_underlying ht, run_getMap hb, run_setMap _ hb]

theorem run_makeMap' (t : TypeId) : (Instr.makeMap t none).run P w = .ok (.map (some w.heap.size)) { w with heap := w.heap.push (.map #[] 0) } := by
  simp [Instr.makeMap, newObj, Sem.run]
end Go.AM
set_option linter.unusedVariables false
set_option linter.unusedSimpArgs false
namespace Go.AM
open Go.RowKit
variable {C : Ctx} {G : Heap} {ρ : Places} {s : State} {a : Act} {w : World}

/-- Keys change hands: what some owned, others own; what they own is written, and new blocks come. -/
theorem RelG.trade (h : RelG C G ρ s a w) {w' : World} (hos : w'.os = w.os) (htape : w'.tape = w.tape) (hout : w'.output = w.output) (hsize : w.heap.size ≤ w'.heap.size)
    {D N : List Nat} {s' : State} {ρ' : Places}
    (hD : ∀ κ, κ ∈ D → ∃ c, s (.vec κ) = some c)
    (hheap : ∀ b, b < w.heap.size → (∀ κ, κ ∈ D → ¬ Owns ρ (.vec κ) κ b) → w'.heap[b]? = w.heap[b]?)
    (hs : ∀ l c, s' l = some c → (s l = some c ∧ ∀ κ, κ ∈ D → l ≠ .vec κ) ∨ ∃ κ, κ ∈ N ∧ l = .vec κ)
    (hρ : ∀ κ, Mentions s κ → ρ' κ = ρ κ)
    (hX : ∀ κ, Mentions s κ → κ ∉ D → ρ'.X κ = ρ.X κ)
    (hcont : ∀ κ c, κ ∈ N → s' (.vec κ) = some c → ContRep G w' ρ' κ c)
    (hown : ∀ κ c b, κ ∈ N → s' (.vec κ) = some c → Owns ρ' (.vec κ) κ b → b < w'.heap.size ∧ ((∃ κ0, κ0 ∈ D ∧ Owns ρ (.vec κ0) κ0 b) ∨ w.heap.size ≤ b))
    (hdis : ∀ κ κ' b, κ ∈ N → κ' ∈ N → Owns ρ' (.vec κ) κ b → Owns ρ' (.vec κ') κ' b → κ = κ') : RelG C G ρ' s' a w' := by
  -- what the traders own
  have hDl : ∀ κ b, κ ∈ D → Owns ρ (.vec κ) κ b → G b = none ∧ b < w.heap.size ∧ (C.MV b ∨ C.w0.heap.size ≤ b) := by
    intro κ b hκ ho
    obtain ⟨c, hc⟩ := hD κ hκ
    obtain ⟨h1, h2, h3⟩ := h.live _ c κ b hc rfl ho
    refine ⟨h1, h2, ?_⟩
    rcases h3 with ⟨_, h4, h5⟩ | h3 | h3
    · exact .inl ⟨κ, h4, h5⟩
    · exact .inl h3
    · exact .inr h3
  have hold : ∀ l c κ b, s l = some c → (∀ κ, κ ∈ D → l ≠ .vec κ) → l.key = some κ → Owns ρ' l κ b → Owns ρ l κ b := by
    rintro l c κ b hl hne hk (ho | ⟨e, ho⟩)
    · rw [hρ κ (.inr ⟨l, c, hl, .inl hk⟩)] at ho; exact .inl ho
    · subst e
      rw [hX κ (.inr ⟨_, c, hl, .inl hk⟩) fun hκ => hne κ hκ rfl] at ho
      exact .inr ⟨rfl, ho⟩
  -- an old key's blocks are no trader's
  have hnot : ∀ l c κ b, s l = some c → (∀ κ, κ ∈ D → l ≠ .vec κ) → l.key = some κ → Owns ρ l κ b → ∀ κ0, κ0 ∈ D → ¬ Owns ρ (.vec κ0) κ0 b := by
    intro l c κ b hl hne hk ho κ0 hκ0 ho0
    obtain ⟨c0, hc0⟩ := hD κ0 hκ0
    have := h.inj l c _ c0 κ κ0 b hl hc0 hk rfl ho ho0
    subst this
    exact hne κ hκ0 (by
      cases l with
      | slot n => simp [Loc.key] at hk
      | vec k => simp [Loc.key] at hk; rw [hk]
      | cell k j =>
        simp [Loc.key] at hk
        subst hk
        obtain ⟨_, b', _, _, _, _, e1, _⟩ := h.cell _ _ _ hl
        exact absurd e1 ((h.vec _ _ hc0).nptr _))
  have hsame : ∀ l c κ b, s l = some c → (∀ κ, κ ∈ D → l ≠ .vec κ) → l.key = some κ → Owns ρ l κ b → w'.heap[b]? = w.heap[b]? := fun l c κ b hl hne hk ho =>
    hheap b (h.live l c κ b hl hk ho).2.1 (hnot l c κ b hl hne hk ho)
  refine ⟨hos.trans h.os, htape.trans h.tape, hout.trans h.output, Nat.le_trans h.size hsize, ?_, ?_, h.g0, h.gnew, ?_, ?_, h.defers, h.ntmps, ?_, ?_, ?_, ?_, ?_⟩
  · intro b hb hm
    rw [hheap b (Nat.lt_of_lt_of_le hb h.size) fun κ hκ ho => ?_]
    · exact h.block b hb hm
    · rcases (hDl κ b hκ ho).2.2 with h1 | h1
      · exact hm h1.m
      · omega
  · intro b o ho
    rw [hheap b (lt_of_heap (h.gle b o ho)) fun κ hκ h1 => ?_]
    · exact h.gle b o ho
    · rw [(hDl κ b hκ h1).1] at ho; simp at ho
  · intro b c e f hb hF
    obtain ⟨c', g1, g2, g3⟩ := h.keep b c e f hb hF
    refine ⟨c', ?_, g2, g3⟩
    rw [hheap b (lt_of_heap g1) fun κ hκ ho => ?_]
    · exact g1
    · rcases (hDl κ b hκ ho).2.2 with ⟨κ1, h1, h2⟩ | h1
      · exact hF κ1 h1 h2
      · have := lt_of_heap hb; omega
  · intro κ hκ
    rw [hρ κ (.inl hκ)]; exact h.old κ hκ
  · intro l c κ b hl hk ho
    rcases hs l c hl with ⟨h1, h2⟩ | ⟨κ1, h1, rfl⟩
    · obtain ⟨q1, q2, q3⟩ := h.live l c κ b h1 hk (hold l c κ b h1 h2 hk ho)
      exact ⟨q1, Nat.lt_of_lt_of_le q2 hsize, q3⟩
    · simp only [Loc.key, Option.some.injEq] at hk
      subst hk
      obtain ⟨q1, q2⟩ := hown κ1 c b h1 hl ho
      rcases q2 with ⟨κ0, q2, q3⟩ | q2
      · obtain ⟨r1, r2, r3⟩ := hDl κ0 b q2 q3
        exact ⟨r1, q1, .inr r3⟩
      · refine ⟨?_, q1, .inr (.inr (Nat.le_trans h.size q2))⟩
        cases hg : G b with
        | none => rfl
        | some o => have := lt_of_heap (h.gle b o hg); omega
  · have hmix : ∀ l c κ κ1 c1 b, s l = some c → (∀ κ, κ ∈ D → l ≠ .vec κ) → l.key = some κ → Owns ρ l κ b → κ1 ∈ N → s' (.vec κ1) = some c1 → Owns ρ' (.vec κ1) κ1 b → False := by
      intro l c κ κ1 c1 b h1 h2 hk ho hN hc1 ho1
      rcases (hown κ1 c1 b hN hc1 ho1).2 with ⟨κ0, q2, q3⟩ | q2
      · exact hnot l c κ b h1 h2 hk ho κ0 q2 q3
      · have := (h.live l c κ b h1 hk ho).2.1
        omega
    intro l c l' c' κ κ' b hl hl' hk hk' ho ho'
    rcases hs l c hl with ⟨h1, h2⟩ | ⟨κ1, h1, rfl⟩
    · have ho := hold l c κ b h1 h2 hk ho
      rcases hs l' c' hl' with ⟨h3, h4⟩ | ⟨κ2, h3, rfl⟩
      · exact h.inj l c l' c' κ κ' b h1 h3 hk hk' ho (hold l' c' κ' b h3 h4 hk' ho')
      · simp only [Loc.key, Option.some.injEq] at hk'
        subst hk'
        exact (hmix l c κ κ2 c' b h1 h2 hk ho h3 hl' ho').elim
    · simp only [Loc.key, Option.some.injEq] at hk
      subst hk
      rcases hs l' c' hl' with ⟨h3, h4⟩ | ⟨κ2, h3, rfl⟩
      · exact (hmix l' c' κ' κ1 c b h3 h4 hk' (hold l' c' κ' b h3 h4 hk' ho') h1 hl ho).elim
      · simp only [Loc.key, Option.some.injEq] at hk'
        subst hk'
        exact hdis κ1 κ2 b h1 h3 ho ho'
  · intro n x hx
    rcases hs _ x hx with ⟨h1, _⟩ | ⟨κ1, _, e⟩
    · obtain ⟨v, y, e1, e2, e3⟩ := h.slot n x h1
      exact ⟨v, y, e1, e2, e3.move (fun _ _ h => h) fun κ hκ => hρ κ (.inr ⟨_, _, h1, .inr (by rw [e1]; exact hκ)⟩)⟩
    · simp at e
  · intro κ k x hx
    rcases hs _ x hx with ⟨h1, h2⟩ | ⟨κ1, _, e⟩
    · obtain ⟨y, b, u, c, e, e1, e2, e3, e4, e5⟩ := h.cell κ k x h1
      refine ⟨y, b, u, c, e, e1, by rw [hρ κ (.inr ⟨_, _, h1, .inl rfl⟩)]; exact e2, ?_, e4, e5.move (fun _ _ h => h) fun κ' hκ' => hρ κ' (.inr ⟨_, _, h1, .inr (by rw [e1]; exact hκ')⟩)⟩
      rw [hsame _ x κ b h1 h2 rfl (.inl (by rw [e2]; rfl))]; exact e3
    · simp at e
  · intro κ x hx
    rcases hs _ x hx with ⟨h1, h2⟩ | ⟨κ1, h1, e⟩
    · refine (h.vec κ x h1).ext (fun _ _ h => h) (hρ κ (.inr ⟨_, _, h1, .inl rfl⟩)) (hX κ (.inr ⟨_, _, h1, .inl rfl⟩) fun hκ => h2 κ hκ rfl) (fun k hk => hρ k (.inr ⟨_, _, h1, .inr hk⟩)) fun b hb => ?_
      exact hsame _ x κ b h1 h2 rfl hb
    · simp only [Loc.vec.injEq] at e
      subst e
      exact hcont κ x h1 hx
end Go.AM
set_option linter.unusedVariables false
set_option linter.unusedSimpArgs false
namespace Go.AM
open Go.RowKit
variable {C : Ctx} {g : State} {o : Oper}

/-! ### M3. Operations on maps -/
/-- What a key's thing is turned to. -/
theorem RelG.retag {G : Heap} {ρ : Places} {s : State} {a : Act} {w : World} (h : RelG C G ρ s a w) {κ : Nat} {c c' : Cont} (hv : s (.vec κ) = some c) {w' : World} (hos : w'.os = w.os) (htape : w'.tape = w.tape) (hout : w'.output = w.output) (hsize : w'.heap.size = w.heap.size)
    (hheap : ∀ b, ¬ Owns ρ (.vec κ) κ b → w'.heap[b]? = w.heap[b]?) {ρ' : Places} (hρ : ∀ k, Mentions s k → ρ' k = ρ k) (hX : ∀ k, Mentions s k → ρ'.X k = ρ.X k) (hc : ContRep G w' ρ' κ c') : RelG C G ρ' (upd s (.vec κ) (some c')) a w' := by
  have hm : Mentions s κ := .inr ⟨_, c, hv, .inl rfl⟩
  have how : ∀ b, Owns ρ' (.vec κ) κ b → Owns ρ (.vec κ) κ b := by
    rintro b (ho | ⟨e, ho⟩)
    · rw [hρ κ hm] at ho; exact .inl ho
    · rw [hX κ hm] at ho; exact .inr ⟨e, ho⟩
  refine h.trade hos htape hout (Nat.le_of_eq hsize.symm) (D := [κ]) (N := [κ]) ?_ ?_ ?_ hρ (fun k hk _ => hX k hk) ?_ ?_ ?_
  · intro k hk; simp at hk; subst hk; exact ⟨c, hv⟩
  · intro b _ hb; exact hheap b (hb κ (by simp))
  · intro l x hl
    by_cases e : l = .vec κ
    · exact .inr ⟨κ, by simp, e⟩
    · rw [upd_ne _ _ e] at hl
      exact .inl ⟨hl, fun k hk => by simp at hk; subst hk; exact e⟩
  · intro k x hk hx
    simp at hk; subst hk
    rw [upd_same] at hx; injection hx with hx; subst hx; exact hc
  · intro k x b hk hx hb
    simp at hk; subst hk
    have := how b hb
    exact ⟨by rw [hsize]; exact (h.live _ _ k b hv rfl this).2.1, .inl ⟨k, by simp, this⟩⟩
  · intro k k' b hk hk' _ _
    simp at hk hk'; rw [hk, hk']

theorem pair_eval {G : Heap} {ρ : Places} {v : Value} {x y : Int} (h : SVRep G ρ v (.v (.agg [.t (.lit (.int .i64 x)), .t (.lit (.int .i64 y))]))) : v = pairV x y := by
  obtain ⟨vs, rfl, h⟩ := h
  cases h with
  | cons h1 t => cases t with
    | cons h2 t2 =>
      cases t2
      rw [h1.2.lit_inv, h2.2.lit_inv]; rfl

def pairC (x y : Int) : SV := .v (.agg [.t (.lit (.int .i64 x)), .t (.lit (.int .i64 y))])
theorem obj_eval {G : Heap} {ρ : Places} {v : Value} {κ : Nat} (h : SVRep G ρ v (.v (.one (.obj κ)))) : v = ρ κ := h.2

theorem und_map {P : Program} {t k e : TypeId} {i : TInfo} (ht : tinfo P t = some i) (hk : i.k = .map k e) : P.underlying t = some (.map k e) := by
  obtain ⟨_, d, _, hs⟩ := tinfo_spec ht
  have h1 := hs.k
  have h2 := hs.und
  rw [hk] at h1
  cases d <;> simp [tkOf] at h1
  obtain ⟨rfl, rfl⟩ := h1
  exact h2

/-- A type's zero value, if it is one cell. -/
def zeroOf (P : Program) (t : TypeId) : Option Value := match P.info? t with
  | some i => i.zero
  | none => none
theorem run_zeroOf {P : Program} {t : TypeId} {z : Value} (h : zeroOf P t = some z) (w : World) : (zeroValue t).run P w = .ok z w := by
  unfold zeroOf at h
  split at h
  · rename_i i hi
    simp [zeroValue, typeInfo, hi, h]
  · simp at h

/-! #### made -/
theorem qs_made {w : World} {e eb : TypeId} : Tag.rep (.qs e eb (fun _ _ => []) .none) { w with heap := w.heap.push (.map #[] 0) } (.map (some w.heap.size)) (fun b => b = w.heap.size) [] := by
  refine ⟨w.heap.size, fun _ _ => none, fun _ _ _ => False, rfl, rfl, ⟨#[], 0, heap_push _ _, MapE.none⟩, fun _ _ _ h => h.elim, fun _ _ _ _ _ h => h.elim, fun a b => ?_⟩
  show NestAt _ _ _ [] none (.slice none 0 0) _ []
  exact ⟨[], World.ownsRow_nil _ 0 e 1, by simp [blk], by simp, by simp, by simp, by simp⟩
theorem cuts_made {w : World} : Tag.rep (.cuts fun _ _ => 0) { w with heap := w.heap.push (.map #[] 0) } (.map (some w.heap.size)) (fun b => b = w.heap.size) [] :=
  ⟨w.heap.size, fun _ _ => none, rfl, rfl, ⟨#[], 0, heap_push _ _, MapE.none⟩, fun _ _ => .inl ⟨rfl, rfl⟩⟩

def setX (ρ : Places) (κ : Nat) (v : Value) (Y : Nat → Prop) : Places := ⟨fun k => if k = κ then v else ρ k, fun k => if k = κ then Y else ρ.X k⟩
theorem setX_same (ρ : Places) (κ : Nat) (v : Value) (Y : Nat → Prop) : setX ρ κ v Y κ = v := by simp [setX]
theorem setX_ne (ρ : Places) {κ k : Nat} (v : Value) (Y : Nat → Prop) (h : k ≠ κ) : setX ρ κ v Y k = ρ k := by simp [setX, h]
theorem setX_X_same (ρ : Places) (κ : Nat) (v : Value) (Y : Nat → Prop) : (setX ρ κ v Y).X κ = Y := by simp [setX]
theorem setX_X_ne (ρ : Places) {κ k : Nat} (v : Value) (Y : Nat → Prop) (h : k ≠ κ) : (setX ρ κ v Y).X k = ρ.X k := by simp [setX, h]

/-- A new key's thing, all of it new. -/
theorem RelG.newTag {G : Heap} {ρ : Places} {s : State} {a : Act} {w : World} (h : RelG C G ρ s a w) {κ : Nat} (hκ : ¬ Mentions s κ) {w' : World} (hg : Grew w w') {v : Value} {Y : Nat → Prop} {t : Tag} {ks : List Nat} (hk : ∀ k, k ∈ ks → k ≠ κ)
    (hr : t.rep w' v Y (ks.map ρ.v)) (hb : ∀ b, (blk v = some b ∨ Y b) → w.heap.size ≤ b ∧ b < w'.heap.size) : RelG C G (setX ρ κ v Y) (upd s (.vec κ) (some (.o t ks))) a w' := by
  have hne : ∀ k, Mentions s k → k ≠ κ := fun k hk e => hκ (e ▸ hk)
  refine h.trade hg.os hg.tape hg.output hg.size (D := []) (N := [κ]) (by simp) ?_ ?_ (fun k hk => setX_ne _ _ _ (hne k hk)) (fun k hk _ => setX_X_ne _ _ _ (hne k hk)) ?_ ?_ ?_
  · intro b hb _; exact hg.block b hb
  · intro l x hl
    by_cases e : l = .vec κ
    · exact .inr ⟨κ, by simp, e⟩
    · rw [upd_ne _ _ e] at hl
      exact .inl ⟨hl, by simp⟩
  · intro k x hk' hx
    simp at hk'; subst hk'
    rw [upd_same] at hx; injection hx with hx; subst hx
    show Tag.rep t _ _ _ _
    rw [setX_same, setX_X_same]
    have : ks.map (setX ρ k v Y).v = ks.map ρ.v := List.map_congr_left fun k' hk' => setX_ne _ _ _ (hk k' hk')
    rw [this]; exact hr
  · intro k x b hk' hx ho
    simp at hk'; subst hk'
    have : blk v = some b ∨ Y b := by
      rcases ho with ho | ⟨_, ho⟩
      · rw [setX_same] at ho; exact .inl ho
      · rw [setX_X_same] at ho; exact .inr ho
    obtain ⟨h1, h2⟩ := hb b this
    exact ⟨h2, .inr h1⟩
  · intro k k' b hk hk' _ _
    simp at hk hk'; rw [hk, hk']

theorem ok_makeTag {t : TypeId} {κ : Nat} {g : Tag} (ho : o.op = .makeMap t none) (hd : dstOK C o.dst) (hg : ∀ w : World, Tag.rep g { w with heap := w.heap.push (.map #[] 0) } (.map (some w.heap.size)) (fun b => b = w.heap.size) []) :
    OpOK C o ⟨[], [(.vec κ, some (.o g []))] ++ wrD o.dst (.v (.one (.obj κ))), [κ]⟩ :=
  opok_val hd fun G ρ s a w hrel hr hf => by
    refine ⟨.map (some w.heap.size), { w with heap := w.heap.push (.map #[] 0) }, G, setX ρ κ (.map (some w.heap.size)) fun b => b = w.heap.size, ?_, ?_, ⟨rfl, (setX_same _ _ _ _).symm⟩⟩
    · simp only [execOp, ho, Option.map_none, Sem.run_bind, run_makeMap', Result.andThen_ok, Sem.run_pure]
    · exact hrel.newTag (hf κ (by simp)) (Grew.push w _) (by simp) (hg w) fun b hb => by
        rcases hb with hb | rfl
        · simp [blk] at hb
        · simp

/-! #### looked up -/
theorem ok_lookS {t k e : TypeId} {i : TInfo} {m z : Operand} {κ : Nat} {S : SF} {ks : List Nat} {x y : Int} (ho : o.op = .lookup t m z false) (hd : dstOK C o.dst) (ht : tinfo C.P t = some i) (hk : i.k = .map k e) (hp : pairT C.P k = true) (hz : zeroOf C.P e = some (.int .i64 0))
    (hm : ev g m = some (.v (.one (.obj κ)))) (hx : ev g z = some (pairC x y)) : OpOK C o ⟨evr g m ++ evr g z ++ [(.vec κ, .o (.cuts S) ks)], wrD o.dst (sv (.int .i64 (S x y))), []⟩ :=
  opok_pure hd fun G ρ s a w hrel hr => by
    obtain ⟨r12, r3⟩ := Reads.app.1 hr
    obtain ⟨r1, r2⟩ := Reads.app.1 r12
    have r3 := (Reads.cons.1 r3).1
    have e1 := obj_eval (ev_rep hm r1 hrel)
    have e2 := pair_eval (ev_rep hx r2 hrel)
    obtain ⟨r, M, f1, f2, f3, f4⟩ := hrel.vec κ _ r3
    have hrun := run_lookup (P := C.P) (und_map ht hk) (pairT_spec hp) (run_zeroOf hz w) f3 (a := x) (b := y)
    refine ⟨.int .i64 (S x y), ?_, sv_rep rfl⟩
    simp only [execOp, ho, e1, e2, f1, Sem.run_bind, hrun, Result.andThen_ok, Sem.run_pure]
    rcases f4 x y with ⟨h1, h2⟩ | ⟨n, h1⟩
    · rw [h1, h2]
    · rw [h1]

theorem val_run {M : MapM} {x y : Int} : (match M x y with | some q => q.1 | none => Value.slice none 0 0) = valOf M x y := rfl

theorem run_lookQ {P : Program} {w : World} {t k e : TypeId} {i : TInfo} {r : Nat} {M : MapM} {x y : Int} (ht : tinfo P t = some i) (hk : i.k = .map k e) (hp : pairT P k = true) (hz : zeroOf P e = some (.slice none 0 0)) (hM : MapIs w r M) :
    (Instr.lookup t (.map (some r)) (pairV x y) false).run P w = .ok (valOf M x y) w := run_lookup (P := P) (und_map ht hk) (pairT_spec hp) (run_zeroOf hz w) hM

def isOwn : HK → Bool
  | .own => true
  | .msg _ => true
  | _ => false
theorem SlotAt.slice {w : World} {e eb : TypeId} {ms : List (List Int)} {M : MapM} {a b : Int} {Y : Nat → Prop} {vs : List Value} {k : HK} (h : SlotAt w e eb ms M a b Y vs k) : ∃ A n c, valOf M a b = .slice A n c := by
  cases k with
  | own => obtain ⟨A, c, h⟩ := NestAt.slice h; exact ⟨A, _, c, h⟩
  | msg i => obtain ⟨A, c, h⟩ := NestAt.slice h; exact ⟨A, _, c, h⟩
  | out => exact h.2
  | stamped => obtain ⟨_, _, _, h⟩ := h; exact h

theorem ok_lookQ_len {t k e : TypeId} {i : TInfo} {m z : Operand} {κ : Nat} {e' eb : TypeId} {Q : QF} {hh : QHole} {ks : List Nat} {x y : Int} (ho : o.op = .lookup t m z false) (hd : dstOK C o.dst) (ht : tinfo C.P t = some i) (hk : i.k = .map k e) (hp : pairT C.P k = true) (hz : zeroOf C.P e = some (.slice none 0 0))
    (hm : ev g m = some (.v (.one (.obj κ)))) (hx : ev g z = some (pairC x y)) (hown : isOwn (hh.at x y) = true) : OpOK C o ⟨evr g m ++ evr g z ++ [(.vec κ, .o (.qs e' eb Q hh) ks)], wrD o.dst (.v (.one (.slen (Q x y).length))), []⟩ :=
  opok_pure hd fun G ρ s a w hrel hr => by
    obtain ⟨r12, r3⟩ := Reads.app.1 hr
    obtain ⟨r1, r2⟩ := Reads.app.1 r12
    have r3 := (Reads.cons.1 r3).1
    have e1 := obj_eval (ev_rep hm r1 hrel)
    have e2 := pair_eval (ev_rep hx r2 hrel)
    obtain ⟨r, M, Y, f⟩ := hrel.vec κ _ r3
    have hrun := run_lookQ (P := C.P) (x := x) (y := y) ht hk hp hz f.map
    have hsl : ∃ A c, valOf M x y = .slice A (Q x y).length c := by
      have hs := f.slot x y
      cases h : hh.at x y <;> rw [h] at hs hown
      · exact NestAt.slice hs
      · simp [isOwn] at hown
      · simp [isOwn] at hown
      · exact NestAt.slice hs
    obtain ⟨A, c, hA⟩ := hsl
    refine ⟨valOf M x y, ?_, ⟨by rw [hA]; rfl, A, c, hA⟩⟩
    simp only [execOp, ho, e1, e2, f.isM, Sem.run_bind, hrun, Result.andThen_ok, Sem.run_pure]

theorem ok_lookQ_out {t k e : TypeId} {i : TInfo} {m z : Operand} {κ κr : Nat} {e' eb : TypeId} {Q : QF} {x y : Int} (ho : o.op = .lookup t m z false) (hd : dstOK C o.dst) (ht : tinfo C.P t = some i) (hk : i.k = .map k e) (hp : pairT C.P k = true) (hz : zeroOf C.P e = some (.slice none 0 0))
    (hm : ev g m = some (.v (.one (.obj κ)))) (hx : ev g z = some (pairC x y)) : OpOK C o ⟨evr g m ++ evr g z ++ [(.vec κ, .o (.qs e' eb Q (.entry x y)) [κr])], wrD o.dst (.v (.one (.row κr))), []⟩ :=
  opok_pure hd fun G ρ s a w hrel hr => by
    obtain ⟨r12, r3⟩ := Reads.app.1 hr
    obtain ⟨r1, r2⟩ := Reads.app.1 r12
    have r3 := (Reads.cons.1 r3).1
    have e1 := obj_eval (ev_rep hm r1 hrel)
    have e2 := pair_eval (ev_rep hx r2 hrel)
    obtain ⟨r, M, Y, f⟩ := hrel.vec κ _ r3
    have hrun := run_lookQ (P := C.P) (x := x) (y := y) ht hk hp hz f.map
    have hs := f.slot x y
    simp only [QHole.at, and_self, if_true] at hs
    obtain ⟨h1, A, n, c, h2⟩ := hs
    simp only [List.map_cons, List.map_nil, List.cons.injEq, and_true] at h1
    refine ⟨valOf M x y, ?_, ⟨by rw [h2]; rfl, h1.symm, A, n, c, h1.trans h2⟩⟩
    simp only [execOp, ho, e1, e2, f.isM, Sem.run_bind, hrun, Result.andThen_ok, Sem.run_pure]

/-! #### written -/
theorem setMap_heap {w : World} {r : Nat} {o : Obj} {ρ : Places} {κ : Nat} (hX : ρ.X κ r) {b : Nat} (h : ¬ Owns ρ (.vec κ) κ b) : (setMap w r o).heap[b]? = w.heap[b]? :=
  setMap_other w o fun e => h (.inr ⟨rfl, e ▸ hX⟩)

theorem valOf_upd_same (M : MapM) (x y : Int) (v : Value) (n : Nat) : valOf (updM M x y (some (v, n))) x y = v := by simp [valOf, updM]
theorem valOf_upd_none (M : MapM) (x y : Int) : valOf (updM M x y none) x y = .slice none 0 0 := by simp [valOf, updM]
theorem valOf_upd_ne (M : MapM) {x y c d : Int} (q : Option (Value × Nat)) (h : ¬ (c = x ∧ d = y)) : valOf (updM M x y q) c d = valOf M c d := by simp [valOf, updM_ne M q h]

theorem SlotAt.upd_ne {w : World} {e eb : TypeId} {ms : List (List Int)} {M : MapM} {x y c d : Int} {q : Option (Value × Nat)} {Y : Nat → Prop} {vs : List Value} {k : HK} (h : SlotAt w e eb ms M c d Y vs k) (hne : ¬ (c = x ∧ d = y)) : SlotAt w e eb ms (updM M x y q) c d Y vs k := by
  unfold SlotAt at h ⊢
  rw [valOf_upd_ne M q hne, updM_ne M q hne]
  exact h

theorem QHole.at_entry_ne {x y c d : Int} (h : ¬ (c = x ∧ d = y)) : (QHole.entry x y).at c d = .own := by simp [QHole.at, h]
theorem QHole.at_stamp_ne {x y c d : Int} (h : ¬ (c = x ∧ d = y)) : (QHole.stamp x y).at c d = .own := by simp [QHole.at, h]
theorem QHole.at_msg_ne {x y c d : Int} {i : Nat} (h : ¬ (c = x ∧ d = y)) : (QHole.msg x y i).at c d = .own := by simp [QHole.at, h]
theorem QHole.at_entry {x y : Int} : (QHole.entry x y).at x y = .out := by simp [QHole.at]
theorem QHole.at_stamp {x y : Int} : (QHole.stamp x y).at x y = .stamped := by simp [QHole.at]
theorem QHole.at_msg {x y : Int} {i : Nat} : (QHole.msg x y i).at x y = .msg i := by simp [QHole.at]

/-- The world behind a write into the map: the rows lie as they lay. -/
theorem QAt.slots {w : World} {e eb : TypeId} {Q : QF} {h : QHole} {v : Value} {X : Nat → Prop} {vs : List Value} {r : Nat} {M : MapM} {Y : Int → Int → Nat → Prop} (f : QAt w e eb Q h v X vs r M Y) (o : Obj) (c d : Int) : SlotAt (setMap w r o) e eb (Q c d) M c d (Y c d) vs (h.at c d) :=
  (f.slot c d).same fun n hn => setMap_other w o (f.sub c d n hn).2

theorem ok_updQ {t k e : TypeId} {i : TInfo} {m z u : Operand} {κ κr κ2 : Nat} {e' eb : TypeId} {Q : QF} {x y : Int} (ho : o.op = .mapUpdate t m z u) (hd : o.dst = none) (ht : tinfo C.P t = some i) (hk : i.k = .map k e) (hp : pairT C.P k = true)
    (hm : ev g m = some (.v (.one (.obj κ)))) (hx : ev g z = some (pairC x y)) (hu : ev g u = some (.v (.one (.row κ2)))) :
    OpOK C o ⟨evr g m ++ evr g z ++ evr g u ++ [(.vec κ, .o (.qs e' eb Q (.entry x y)) [κr])], [(.vec κ, some (.o (.qs e' eb Q (.entry x y)) [κ2]))], []⟩ :=
  opok_skip hd fun G ρ s a w hrel hr hf => by
    obtain ⟨r123, r4⟩ := Reads.app.1 hr
    obtain ⟨r12, r3⟩ := Reads.app.1 r123
    obtain ⟨r1, r2⟩ := Reads.app.1 r12
    have r4 := (Reads.cons.1 r4).1
    have e1 := obj_eval (ev_rep hm r1 hrel)
    have e2 := pair_eval (ev_rep hx r2 hrel)
    obtain ⟨_, e3, A, n, c, e4⟩ := ev_rep hu r3 hrel
    obtain ⟨r, M, Y, f⟩ := hrel.vec κ _ r4
    obtain ⟨ob, nb, hrun, hM⟩ := run_mapUpdate (P := C.P) (und_map ht hk) (pairT_spec hp) f.map (b := y) (a := x) (a.eval u)
    refine ⟨setMap w r ob, G, ρ, ?_, ?_⟩
    · simp only [execOp, ho, e1, e2, f.isM, Sem.run_bind, hrun, Result.andThen_ok, Sem.run_pure]
    · refine hrel.retag r4 (w' := setMap w r ob) rfl rfl rfl (setMap_size _ _ _) (fun b hb => setMap_heap f.inX hb) (fun _ _ => rfl) (fun _ _ => rfl) ?_
      refine ⟨r, _, Y, f.isM, f.inX, hM, f.sub, f.apart, fun c' d' => ?_⟩
      by_cases hcd : c' = x ∧ d' = y
      · obtain ⟨rfl, rfl⟩ := hcd
        rw [QHole.at_entry]
        refine ⟨?_, A, n, c, ?_⟩
        · rw [valOf_upd_same, e3]; rfl
        · rw [valOf_upd_same, e3, e4]
      · have := f.slots ob c' d'
        rw [QHole.at_entry_ne hcd] at this ⊢
        exact this.upd_ne hcd

def updS (S : SF) (x y n : Int) : SF := fun c d => if c = x ∧ d = y then n else S c d
theorem ok_updS {t k e : TypeId} {i : TInfo} {m z u : Operand} {yu : SV} {κ : Nat} {S : SF} {ks : List Nat} {x y n : Int} (ho : o.op = .mapUpdate t m z u) (hd : o.dst = none) (ht : tinfo C.P t = some i) (hk : i.k = .map k e) (hp : pairT C.P k = true)
    (hm : ev g m = some (.v (.one (.obj κ)))) (hx : ev g z = some (pairC x y)) (hu : ev g u = some yu) (hn : litV yu = some (.int .i64 n)) :
    OpOK C o ⟨evr g m ++ evr g z ++ evr g u ++ [(.vec κ, .o (.cuts S) ks)], [(.vec κ, some (.o (.cuts (updS S x y n)) ks))], []⟩ :=
  opok_skip hd fun G ρ s a w hrel hr hf => by
    obtain ⟨r123, r4⟩ := Reads.app.1 hr
    obtain ⟨r12, r3⟩ := Reads.app.1 r123
    obtain ⟨r1, r2⟩ := Reads.app.1 r12
    have r4 := (Reads.cons.1 r4).1
    have e1 := obj_eval (ev_rep hm r1 hrel)
    have e2 := pair_eval (ev_rep hx r2 hrel)
    have e3 := (litV_rep hn (ev_rep hu r3 hrel)).1
    obtain ⟨r, M, f1, f2, f3, f4⟩ := hrel.vec κ _ r4
    obtain ⟨ob, nb, hrun, hM⟩ := run_mapUpdate (P := C.P) (und_map ht hk) (pairT_spec hp) f3 (a := x) (b := y) (.int .i64 n)
    refine ⟨setMap w r ob, G, ρ, ?_, ?_⟩
    · simp only [execOp, ho, e1, e2, e3, f1, Sem.run_bind, hrun, Result.andThen_ok, Sem.run_pure]
    · refine hrel.retag r4 (w' := setMap w r ob) rfl rfl rfl (setMap_size _ _ _) (fun b hb => setMap_heap f2 hb) (fun _ _ => rfl) (fun _ _ => rfl) ?_
      refine ⟨r, _, f1, f2, hM, fun c d => ?_⟩
      by_cases hcd : c = x ∧ d = y
      · obtain ⟨rfl, rfl⟩ := hcd
        exact .inr ⟨nb, by simp [updM, updS]⟩
      · simp only [updS, updM, if_neg hcd]
        exact f4 c d

theorem ok_entryQ {t k e : TypeId} {i : TInfo} {m z : Operand} {κ κr κs : Nat} {e' eb : TypeId} {Q : QF} {x y : Int} (ho : o.op = .mapEntry t m z) (hd : dstOK C o.dst) (ht : tinfo C.P t = some i) (hk : i.k = .map k e) (hp : pairT C.P k = true) (hz : zeroOf C.P e = some (.slice none 0 0))
    (hm : ev g m = some (.v (.one (.obj κ)))) (hx : ev g z = some (pairC x y)) :
    OpOK C o ⟨evr g m ++ evr g z ++ [(.vec κ, .o (.qs e' eb Q (.entry x y)) [κr])], [(.vec κ, some (.o (.qs e' eb Q (.stamp x y)) [κr, κs]))] ++ wrD o.dst (.tup [.one (.row κr), .one (.obj κs)]), [κs]⟩ :=
  opok_val hd fun G ρ s a w hrel hr hf => by
    obtain ⟨r12, r3⟩ := Reads.app.1 hr
    obtain ⟨r1, r2⟩ := Reads.app.1 r12
    have r3 := (Reads.cons.1 r3).1
    have e1 := obj_eval (ev_rep hm r1 hrel)
    have e2 := pair_eval (ev_rep hx r2 hrel)
    obtain ⟨r, M, Y, f⟩ := hrel.vec κ _ r3
    obtain ⟨ob, nb, hrun, hM⟩ := run_mapEntry (P := C.P) (und_map ht hk) (pairT_spec hp) (run_zeroOf hz w) f.map (a := x) (b := y)
    have hrun : (Instr.mapEntry t (.map (some r)) (pairV x y)).run C.P w = .ok (.tuple #[valOf M x y, .int .i64 nb]) (setMap w r ob) := hrun
    have hM : MapIs (setMap w r ob) r (updM M x y (some (valOf M x y, nb))) := hM
    have hs := f.slot x y
    rw [QHole.at_entry] at hs
    obtain ⟨h1, A, n, c, h2⟩ := hs
    simp only [List.map_cons, List.map_nil, List.cons.injEq, and_true] at h1
    have hκs : ¬ Mentions s κs := hf κs (by simp)
    have hne : ∀ k, Mentions s k → k ≠ κs := fun k hk e => hκs (e ▸ hk)
    have hr1 : Mentions s κr := .inr ⟨_, _, r3, .inr (by simp [Cont.keys])⟩
    have hr2 : Mentions s κ := .inr ⟨_, _, r3, .inl rfl⟩
    refine ⟨.tuple #[valOf M x y, .int .i64 nb], setMap w r ob, G, setAt ρ κs (.int .i64 nb), ?_, ?_, ⟨[valOf M x y, .int .i64 nb], rfl, .cons ?_ (.cons ?_ .nil)⟩⟩
    · simp only [execOp, ho, e1, e2, f.isM, Sem.run_bind, hrun, Result.andThen_ok, Sem.run_pure]
    · refine hrel.retag r3 (w' := setMap w r ob) rfl rfl rfl (setMap_size _ _ _) (fun b hb => setMap_heap f.inX hb) (fun k hk => setAt_ne _ _ (hne k hk)) (fun k hk => setAt_X_ne _ _ (hne k hk)) ?_
      show Tag.rep (.qs e' eb Q (.stamp x y)) (setMap w r ob) (setAt ρ κs (.int .i64 nb) κ) ((setAt ρ κs (.int .i64 nb)).X κ) ([κr, κs].map (setAt ρ κs (.int .i64 nb)).v)
      rw [setAt_ne _ _ (hne κ hr2), setAt_X_ne _ _ (hne κ hr2)]
      refine ⟨r, _, Y, f.isM, f.inX, hM, f.sub, f.apart, fun c' d' => ?_⟩
      by_cases hcd : c' = x ∧ d' = y
      · obtain ⟨rfl, rfl⟩ := hcd
        rw [QHole.at_stamp]
        refine ⟨nb, ?_, ?_, A, n, c, ?_⟩
        · rw [valOf_upd_same, updM_same]
        · rw [valOf_upd_same]
          simp only [List.map_cons, List.map_nil]
          rw [setAt_ne _ _ (hne κr hr1), setAt_same, h1]
        · rw [valOf_upd_same, h2]
      · have := f.slots ob c' d'
        rw [QHole.at_entry_ne hcd] at this
        rw [QHole.at_stamp_ne hcd]
        exact SlotAt.upd_ne (k := .own) this hcd
    · exact ⟨by rw [h2]; rfl, by rw [setAt_ne _ _ (hne κr hr1)]; exact h1.symm, A, n, c, by rw [setAt_ne _ _ (hne κr hr1)]; exact h1.trans h2⟩
    · exact ⟨rfl, (setAt_same _ _ _).symm⟩

theorem ok_entryStoreQ {t : TypeId} {m z u : Operand} {κ κr κs κ2 : Nat} {e' eb : TypeId} {Q : QF} {x y : Int} (ho : o.op = .entryStore t m z u) (hd : o.dst = none)
    (hm : ev g m = some (.v (.one (.obj κ)))) (hx : ev g z = some (.v (.one (.obj κs)))) (hu : ev g u = some (.v (.one (.row κ2)))) :
    OpOK C o ⟨evr g m ++ evr g z ++ evr g u ++ [(.vec κ, .o (.qs e' eb Q (.stamp x y)) [κr, κs])], [(.vec κ, some (.o (.qs e' eb Q (.entry x y)) [κ2]))], []⟩ :=
  opok_skip hd fun G ρ s a w hrel hr hf => by
    obtain ⟨r123, r4⟩ := Reads.app.1 hr
    obtain ⟨r12, r3⟩ := Reads.app.1 r123
    obtain ⟨r1, r2⟩ := Reads.app.1 r12
    have r4 := (Reads.cons.1 r4).1
    have e1 := obj_eval (ev_rep hm r1 hrel)
    have e2 := obj_eval (ev_rep hx r2 hrel)
    obtain ⟨_, e3, A, n, c, e4⟩ := ev_rep hu r3 hrel
    obtain ⟨r, M, Y, f⟩ := hrel.vec κ _ r4
    have hs := f.slot x y
    rw [QHole.at_stamp] at hs
    obtain ⟨nb, h1, h2, _⟩ := hs
    simp only [List.map_cons, List.map_nil, List.cons.injEq, and_true] at h2
    obtain ⟨ob, hrun, hM⟩ := run_entryStore (P := C.P) (mt := t) f.map h1 (a.eval u)
    refine ⟨setMap w r ob, G, ρ, ?_, ?_⟩
    · simp only [execOp, ho, e1, e2, h2.2, f.isM, Sem.run_bind, hrun, Result.andThen_ok, Sem.run_pure]
    · refine hrel.retag r4 (w' := setMap w r ob) rfl rfl rfl (setMap_size _ _ _) (fun b hb => setMap_heap f.inX hb) (fun _ _ => rfl) (fun _ _ => rfl) ?_
      refine ⟨r, _, Y, f.isM, f.inX, hM, f.sub, f.apart, fun c' d' => ?_⟩
      by_cases hcd : c' = x ∧ d' = y
      · obtain ⟨rfl, rfl⟩ := hcd
        rw [QHole.at_entry]
        refine ⟨?_, A, n, c, ?_⟩
        · rw [valOf_upd_same, e3]; rfl
        · rw [valOf_upd_same, e3, e4]
      · have := f.slots ob c' d'
        rw [QHole.at_stamp_ne hcd] at this
        rw [QHole.at_entry_ne hcd]
        exact SlotAt.upd_ne (k := .own) this hcd

def updQ (Q : QF) (x y : Int) (ms : List (List Int)) : QF := fun c d => if c = x ∧ d = y then ms else Q c d

theorem run_delB {a : Act} {w : World} {x z : Operand} {t u : TypeId} (ho : o.op = .call { callee := .builtin .delete, args := #[x, z], argTypes := #[t, u] }) (v' : Value) (w' : World) (h : (Builtin.delete_ #[t, u] o.type #[a.eval x, a.eval z]).run C.P w = .ok v' w') :
    (execOp a.eval o).run C.P w = .ok (.value v') w' := by
  simp [execOp, ho, resolve, invoke, builtin, h]
theorem run_clrB {a : Act} {w : World} {x : Operand} {t : TypeId} (ho : o.op = .call { callee := .builtin .clear, args := #[x], argTypes := #[t] }) (v' : Value) (w' : World) (h : (Builtin.clear_ #[t] o.type #[a.eval x]).run C.P w = .ok v' w') :
    (execOp a.eval o).run C.P w = .ok (.value v') w' := by
  simp [execOp, ho, resolve, invoke, builtin, h]

theorem ok_delQ {t u k e : TypeId} {i : TInfo} {m z : Operand} {κ : Nat} {e' eb : TypeId} {Q : QF} {x y : Int} (ho : o.op = .call { callee := .builtin .delete, args := #[m, z], argTypes := #[t, u] }) (hd : dstOK C o.dst) (ht : tinfo C.P t = some i) (hk : i.k = .map k e) (hp : pairT C.P k = true)
    (hm : ev g m = some (.v (.one (.obj κ)))) (hx : ev g z = some (pairC x y)) :
    OpOK C o ⟨evr g m ++ evr g z ++ [(.vec κ, .o (.qs e' eb Q .none) [])], [(.vec κ, some (.o (.qs e' eb (updQ Q x y []) .none) []))] ++ wrD o.dst (.tup []), []⟩ :=
  opok_val hd fun G ρ s a w hrel hr hf => by
    obtain ⟨r12, r3⟩ := Reads.app.1 hr
    obtain ⟨r1, r2⟩ := Reads.app.1 r12
    have r3 := (Reads.cons.1 r3).1
    have e1 := obj_eval (ev_rep hm r1 hrel)
    have e2 := pair_eval (ev_rep hx r2 hrel)
    obtain ⟨r, M, Y, f⟩ := hrel.vec κ _ r3
    obtain ⟨ob, hrun, hM⟩ := run_delete (P := C.P) (und_map ht hk) (pairT_spec hp) f.map u o.type (a := x) (b := y)
    refine ⟨.tuple #[], setMap w r ob, G, ρ, run_delB ho _ _ (by rw [e1, e2, f.isM, hrun]), ?_, ⟨[], rfl, .nil⟩⟩
    refine hrel.retag r3 (w' := setMap w r ob) rfl rfl rfl (setMap_size _ _ _) (fun b hb => setMap_heap f.inX hb) (fun _ _ => rfl) (fun _ _ => rfl) ?_
    refine ⟨r, _, fun c d => if c = x ∧ d = y then fun _ => False else Y c d, f.isM, f.inX, hM, ?_, ?_, ?_⟩
    · intro c d n hn
      split at hn
      · exact hn.elim
      · exact f.sub c d n hn
    · intro c d c' d' n hn hn'
      split at hn
      · exact hn.elim
      · split at hn'
        · exact hn'.elim
        · exact f.apart c d c' d' n hn hn'
    · intro c d
      have hq : QHole.none.at c d = .own := rfl
      rw [hq]
      by_cases hcd : c = x ∧ d = y
      · obtain ⟨rfl, rfl⟩ := hcd
        simp only [and_self, if_true]
        show NestAt _ _ _ _ none _ _ []
        rw [valOf_upd_none]
        simp only [updQ, and_self, if_true]
        exact ⟨[], World.ownsRow_nil _ 0 e' 1, by simp [blk], by simp, by simp, by simp, by simp⟩
      · simp only [if_neg hcd]
        have := f.slots ob c d
        rw [hq] at this
        have e3 : updQ Q x y [] c d = Q c d := by simp [updQ, hcd]
        rw [e3]
        exact SlotAt.upd_ne (k := .own) this hcd

theorem ok_clrS {t k e : TypeId} {i : TInfo} {m : Operand} {κ : Nat} {S : SF} {ks : List Nat} (ho : o.op = .call { callee := .builtin .clear, args := #[m], argTypes := #[t] }) (hd : dstOK C o.dst) (ht : tinfo C.P t = some i) (hk : i.k = .map k e)
    (hm : ev g m = some (.v (.one (.obj κ)))) :
    OpOK C o ⟨evr g m ++ [(.vec κ, .o (.cuts S) ks)], [(.vec κ, some (.o (.cuts fun _ _ => 0) ks))] ++ wrD o.dst (.tup []), []⟩ :=
  opok_val hd fun G ρ s a w hrel hr hf => by
    obtain ⟨r1, r3⟩ := Reads.app.1 hr
    have r3 := (Reads.cons.1 r3).1
    have e1 := obj_eval (ev_rep hm r1 hrel)
    obtain ⟨r, M, f1, f2, f3, f4⟩ := hrel.vec κ _ r3
    obtain ⟨ob, hrun, hM⟩ := run_clear (P := C.P) (und_map ht hk) f3 o.type
    refine ⟨.tuple #[], setMap w r ob, G, ρ, run_clrB ho _ _ (by rw [e1, f1, hrun]), ?_, ⟨[], rfl, .nil⟩⟩
    refine hrel.retag r3 (w' := setMap w r ob) rfl rfl rfl (setMap_size _ _ _) (fun b hb => setMap_heap f2 hb) (fun _ _ => rfl) (fun _ _ => rfl) ?_
    exact ⟨r, _, f1, f2, hM, fun _ _ => .inl ⟨rfl, rfl⟩⟩
end Go.AM
set_option linter.unusedVariables false
set_option linter.unusedSimpArgs false
namespace Go.AM
open Go.RowKit
variable {C : Ctx} {g : State} {o : Oper}

/-! ### M4. Operations on rows of rows -/
def lit1 (u : Value) : List T := [.lit u]
theorem vec_of_own {G : Heap} {w : World} {v : Value} {e : TypeId} {n : Nat} {us : List Value} (h : w.ownsRow 0 e 1 v n us) (h1 : ∀ u, u ∈ us → u.oneCell' = true) : VecRep G w v 1 e (us.map lit1) := by
  have hn : us.length = n := by simpa using h.1
  subst hn
  refine ⟨?_, us, by simpa using h, ?_⟩
  · intro i cells hi
    simp only [List.getElem?_map, Option.map_eq_some_iff] at hi
    obtain ⟨u, _, rfl⟩ := hi
    rfl
  · intro i cells k t hi hk
    simp only [List.getElem?_map, Option.map_eq_some_iff] at hi
    obtain ⟨u, hu, rfl⟩ := hi
    match k, hk with
    | 0, hk =>
      simp [lit1] at hk
      subst hk
      exact ⟨u, by simpa using hu, h1 u (List.mem_of_getElem? hu), .lit u⟩
    | k + 1, hk => simp [lit1] at hk

theorem own_of_vec {G : Heap} {w : World} {v : Value} {e : TypeId} {us : List Value} (h : VecRep G w v 1 e (us.map lit1)) : w.ownsRow 0 e 1 v us.length us ∧ ∀ u, u ∈ us → u.oneCell' = true := by
  obtain ⟨_, xs, h1, h2⟩ := h
  have hl : xs.length = us.length := by have := h1.1; simpa using this
  have hx : ∀ (i : Nat) (u : Value), us[i]? = some u → xs[i]? = some u ∧ u.oneCell' = true := by
    intro i u hu
    obtain ⟨u', g1, g2, g3⟩ := h2 i (lit1 u) 0 (.lit u) (by simp [hu]) rfl
    have := g3.lit_inv
    subst this
    exact ⟨by simpa using g1, g2⟩
  have he : xs = us := by
    apply List.ext_getElem?
    intro i
    by_cases hi : i < us.length
    · rw [(hx i us[i] (List.getElem?_eq_getElem hi)).1, List.getElem?_eq_getElem hi]
    · rw [List.getElem?_eq_none (by omega), List.getElem?_eq_none (by omega)]
  subst he
  refine ⟨by simpa using h1, fun u hu => ?_⟩
  obtain ⟨i, hi, rfl⟩ := List.mem_iff_getElem.1 hu
  exact (hx i _ (List.getElem?_eq_getElem hi)).2

theorem bytes_of_vec {G : Heap} {w : World} {v : Value} {e : TypeId} {bs : List Int} (h : VecRep G w v 1 e (byteRows bs)) : BytesAt w e v bs := by
  have : byteRows bs = (bs.map (Value.int .u8)).map lit1 := by simp [byteRows, lit1]
  rw [this] at h
  have := (own_of_vec h).1
  simpa [BytesAt] using this
theorem vec_of_bytes {G : Heap} {w : World} {v : Value} {e : TypeId} {bs : List Int} (h : BytesAt w e v bs) : VecRep G w v 1 e (byteRows bs) := by
  have : byteRows bs = (bs.map (Value.int .u8)).map lit1 := by simp [byteRows, lit1]
  rw [this]
  exact vec_of_own h (by intro u hu; obtain ⟨x, _, rfl⟩ := List.mem_map.1 hu; rfl)

theorem NestU.slices {w : World} {e eb : TypeId} {ms : List (List Int)} {h : Option Nat} {v : Value} {Y : Nat → Prop} {vs us : List Value} (hn : NestU w e eb ms h v Y vs us) {i : Nat} {u : Value} (hu : us[i]? = some u) : ∃ A n c, u = .slice A n c := by
  have hi : i < us.length := (List.getElem?_eq_some_iff.1 hu).1
  rw [hn.len] at hi
  by_cases hh : h = some i
  · obtain ⟨_, u', h1, _, h2⟩ := hn.hole i hh
    rw [hu] at h1; injection h1 with h1; rw [h1]; exact h2
  · obtain ⟨A, c, h1⟩ := own_slice (hn.own i _ u (List.getElem?_eq_getElem hi) hu hh)
    exact ⟨A, _, c, h1⟩
theorem NestU.one {w : World} {e eb : TypeId} {ms : List (List Int)} {h : Option Nat} {v : Value} {Y : Nat → Prop} {vs us : List Value} (hn : NestU w e eb ms h v Y vs us) : ∀ u, u ∈ us → u.oneCell' = true := by
  intro u hu
  obtain ⟨i, hi, rfl⟩ := List.mem_iff_getElem.1 hu
  obtain ⟨A, n, c, e⟩ := hn.slices (List.getElem?_eq_getElem hi)
  rw [e]; rfl
theorem NestU.vec {G : Heap} {w : World} {e eb : TypeId} {ms : List (List Int)} {h : Option Nat} {v : Value} {Y : Nat → Prop} {vs us : List Value} (hn : NestU w e eb ms h v Y vs us) : VecRep G w v 1 e (us.map lit1) := vec_of_own hn.row hn.one

/-- Where an element's slice stands. -/
theorem NestU.cell {w : World} {e eb : TypeId} {ms : List (List Int)} {h : Option Nat} {v : Value} {Y : Nat → Prop} {vs us : List Value} (hn : NestU w e eb ms h v Y vs us) {i : Nat} {u : Value} (hu : us[i]? = some u) :
    ∃ b c cur, v = .slice (some ⟨b, 0, none⟩) ms.length c ∧ w.heap[b]? = some (.cells cur e (0, 0)) ∧ cur[i]? = some u := by
  have hi : i < us.length := (List.getElem?_eq_some_iff.1 hu).1
  rw [hn.len] at hi
  rcases hn.row.2 with ⟨_, h1⟩ | ⟨b, c, cur, h1, _, h2, _, _, _, h3⟩
  · omega
  · refine ⟨b, c, cur, h1, h2, ?_⟩
    rw [← h3, List.getElem?_take] at hu
    split at hu
    · simpa using hu
    · simp at hu

theorem ok_len_slen {t e : TypeId} {i : TInfo} {x : Operand} {n : Nat} (ho : o.op = .call { callee := .builtin .len, args := #[x], argTypes := #[t] }) (hd : dstOK C o.dst) (ht : tinfo C.P t = some i) (hk : i.k = .slice e)
    (hx : ev g x = some (.v (.one (.slen n)))) : OpOK C o ⟨evr g x, wrD o.dst (sv (.int .i64 n)), []⟩ :=
  opok_pure hd fun G ρ s a w hrel hr => by
    obtain ⟨_, A, c, h1⟩ := ev_rep hx hr hrel
    refine ⟨.int .i64 n, ?_, sv_rep rfl⟩
    rw [exec_builtin1 ho w rfl, h1, run_len_slice ht hk]; rfl

theorem ok_len_nest {t e e' eb : TypeId} {i : TInfo} {x : Operand} {κ : Nat} {ms : List (List Int)} {h : Option Nat} {ks : List Nat} (ho : o.op = .call { callee := .builtin .len, args := #[x], argTypes := #[t] }) (hd : dstOK C o.dst) (ht : tinfo C.P t = some i) (hk : i.k = .slice e)
    (hx : ev g x = some (.v (.one (.row κ)))) : OpOK C o ⟨evr g x ++ [(.vec κ, .o (.nest e' eb ms h) ks)], wrD o.dst (sv (.int .i64 ms.length)), []⟩ :=
  opok_pure hd fun G ρ s a w hrel hr => by
    obtain ⟨r1, r2⟩ := Reads.app.1 hr
    have r2 := (Reads.cons.1 r2).1
    obtain ⟨_, e1, _⟩ := ev_rep hx r1 hrel
    obtain ⟨Y, hn, _⟩ := hrel.vec κ _ r2
    obtain ⟨A, c, h1⟩ := hn.slice
    refine ⟨.int .i64 ms.length, ?_, sv_rep rfl⟩
    rw [exec_builtin1 ho w rfl, e1, h1, run_len_slice ht hk]; rfl

theorem ok_idx_nest {t e e' eb : TypeId} {i j : TInfo} {x z : Operand} {yz : SV} {k : IntKind} {ix : Int} {κ : Nat} {ms : List (List Int)} {h : Option Nat} {ks : List Nat} (ho : o.op = .indexAddr t x z) (hd : dstOK C o.dst) (ht : tinfo C.P t = some i) (hk : i.k = .slice e) (hj : tinfo C.P e = some j) (hj1 : j.size = 1)
    (hx : ev g x = some (.v (.one (.row κ)))) (hz : ev g z = some yz) (hvz : litV yz = some (.int k ix)) (h0 : 0 ≤ ix) (hlt : ix.toNat < ms.length) :
    OpOK C o ⟨evr g x ++ evr g z ++ [(.vec κ, .o (.nest e' eb ms h) ks)], wrD o.dst (.v (.one (.vptr κ 1 ix.toNat 0))), []⟩ :=
  opok_pure hd fun G ρ s a w hrel hr => by
    obtain ⟨r12, r3⟩ := Reads.app.1 hr
    obtain ⟨r1, r2⟩ := Reads.app.1 r12
    have r3 := (Reads.cons.1 r3).1
    obtain ⟨_, e1, _⟩ := ev_rep hx r1 hrel
    have e2 := (litV_rep hvz (ev_rep hz r2 hrel)).1
    obtain ⟨Y, ⟨us, hn⟩, _⟩ := hrel.vec κ _ r3
    have hus : us[ix.toNat]? = some (us[ix.toNat]'(by rw [hn.len]; exact hlt)) := List.getElem?_eq_getElem _
    obtain ⟨b, c, cur, f1, f2, f3⟩ := hn.cell hus
    refine ⟨.pointer (some ⟨b, ix.toNat * 1, none⟩), ?_, ⟨rfl, b, ms.length, c, f1, by simp⟩⟩
    have := run_indexAt_slice ht hk hj (P := C.P) ⟨b, 0, none⟩ ms.length c k ix h0 (by omega) w
    rw [Addr.add_lit, Nat.zero_add, hj1] at this
    simp [execOp, ho, e1, f1, e2, this]

theorem ok_load_nest {t e' eb : TypeId} {i : TInfo} {x : Operand} {κ κm ix : Nat} {ms : List (List Int)} (ho : o.op = .load t x) (hd : dstOK C o.dst) (ht : tinfo C.P t = some i) (h1 : i.size = 1) (h2 : i.agg = false)
    (hx : evp g x = some (.v (.one (.vptr κ 1 ix 0)))) : OpOK C o ⟨evr g x ++ [(.vec κ, .o (.nest e' eb ms (some ix)) [κm])], wrD o.dst (.v (.one (.row κm))), []⟩ :=
  opok_pure hd fun G ρ s a w hrel hr => by
    obtain ⟨r1, r2⟩ := Reads.app.1 hr
    have r2 := (Reads.cons.1 r2).1
    obtain ⟨_, b, n, c, e1, e2⟩ := evp_rep hx r1 hrel
    obtain ⟨Y, ⟨us, hn⟩, _⟩ := hrel.vec κ _ r2
    obtain ⟨hlt, u, hu, hvs, A, n', c', hs⟩ := hn.hole ix rfl
    obtain ⟨b', c2, cur, f1, f2, f3⟩ := hn.cell hu
    rw [e1] at f1
    simp at f1
    obtain ⟨rfl, _, _⟩ := f1
    have := run_loadVar ht w ⟨b, ix * 1 + 0, none⟩ [u] (by simp [h1]) (fun _ => rfl) fun j v hj => by
      match j, hj with
      | 0, hj =>
        simp at hj; subst hj
        rw [Addr.add_lit]
        simp [World.cell?, f2, f3]
      | j + 1, hj => simp at hj
    rw [h2] at this
    simp only [Bool.false_eq_true, if_false, List.headD] at this
    simp only [List.map_cons, List.map_nil, List.cons.injEq, and_true] at hvs
    refine ⟨u, by simp only [Nat.mul_one, Nat.add_zero] at this e2; simp [execOp, ho, e2, Instr.loadAt, Instr.sureAddr, this], ⟨by rw [hs]; rfl, hvs.symm, A, n', c', by rw [hvs]; exact hs⟩⟩

theorem fill_one (z u : Value) (hz : z.cells.size = 1) (hu : u.oneCell' = true) : Instr.fill (fun i => some (i * 1, 1)) (madeCells z.cells (1 * 1)) [(0, u)] = some #[u] := by
  have h1 := cells_one hu
  have hm : (madeCells z.cells 1).size = 1 := size_madeCells _ _
  obtain ⟨q, hq⟩ : ∃ q, madeCells z.cells 1 = #[q] := by
    match hx : madeCells z.cells 1 with
    | ⟨[q]⟩ => exact ⟨q, rfl⟩
    | ⟨[]⟩ => rw [hx] at hm; simp at hm
    | ⟨_ :: _ :: _⟩ => rw [hx] at hm; simp at hm
  simp [Instr.fill, hq, h1]

theorem ok_one {t e : TypeId} {i j : TInfo} {x : Operand} {κ κc : Nat} (ho : o.op = .buildSlice t 1 #[(0, x)]) (hd : dstOK C o.dst) (ht : tinfo C.P t = some i) (hk : i.k = .slice e) (hj : tinfo C.P e = some j) (hj1 : j.size = 1)
    (hx : ev g x = some (.v (.one (.row κc)))) (hκc : κc ≠ κ) : OpOK C o ⟨evr g x, [(.vec κ, some (.o (.one e) [κc]))] ++ wrD o.dst (.v (.one (.row κ))), [κ]⟩ :=
  opok_val hd fun G ρ s a w hrel hr hf => by
    obtain ⟨h1, e1, A, n, c, e2⟩ := ev_rep hx hr hrel
    obtain ⟨inf, d, z, hs⟩ := tinfo_spec hj
    have hrun : (Instr.buildSlice t 1 (#[(0, x)].map fun p => (p.1, a.eval p.2))).run C.P w = .ok (.slice (some ⟨w.heap.size, 0, none⟩) 1 1) { w with heap := w.heap.push (.cells #[ρ κc] e) } :=
      run_buildSlice (P := C.P) w t e 1 _ #[ρ κc] inf z (und_slice ht hk) hs.info hs.zero (by rw [hs.size, hj1]; omega) (by rw [hs.size, hj1]; omega) (by
        rw [hs.size, hj1]
        have := fill_one z (a.eval x) (by rw [hs.zsize, hj1]) h1
        rw [e1] at this
        simp only [madeCells] at this
        simpa [e1] using this)
    have hex : (execOp a.eval o).run C.P w = .ok (.value (.slice (some ⟨w.heap.size, 0, none⟩) 1 1)) { w with heap := w.heap.push (.cells #[ρ κc] e) } := by
      simp only [execOp, ho, Sem.run_bind, hrun, Result.andThen_ok, Sem.run_pure]
    refine ⟨_, _, G, setX ρ κ (.slice (some ⟨w.heap.size, 0, none⟩) 1 1) fun _ => False, hex, ?_, ⟨rfl, (setX_same _ _ _ _).symm, _, _, _, setX_same _ _ _ _⟩⟩
    refine hrel.newTag (hf κ (by simp)) (Grew.push w _) (by intro k hk; simp at hk; rw [hk]; exact hκc) ?_ ?_
    · refine ⟨ρ κc, rfl, ⟨rfl, .inr ⟨w.heap.size, 1, #[ρ κc], rfl, Nat.zero_le _, heap_push _ _, Nat.le_refl _, by simp [maxLen], rfl, rfl⟩⟩, A, n, c, e2⟩
    · intro b hb
      simp [blk] at hb
      subst hb
      simp

/-- One more row, which was the act's own. -/
theorem ok_app_nest {x z : Operand} {t u e e' eb : TypeId} {i iu j : TInfo} {κr κ2 κc κ3 : Nat} {ms : List (List Int)} {h : Option Nat} {ks : List Nat} {bs : List Int} (ho : o.op = .call { callee := .builtin .append, args := #[x, z], argTypes := #[t, u] }) (hd : dstOK C o.dst)
    (ht : tinfo C.P t = some i) (hk : i.k = .slice e) (hu : tinfo C.P u = some iu) (hku : iu.k = .slice e') (hj : tinfo C.P e = some j) (hj1 : j.size = 1) (hx : ev g x = some (.v (.one (.row κr)))) (hz : ev g z = some (.v (.one (.row κ2))))
    (hlen : ms.length + 1 ≤ maxLen) (hbytes : (ms.length + 1) * j.bytes ≤ 140737488355328) (hh : ∀ i, h = some i → i < ms.length) (hks : κ3 ∉ ks) :
    OpOK C o ⟨evr g x ++ evr g z ++ [(.vec κr, .o (.nest e eb ms h) ks), (.vec κ2, .o (.one e) [κc]), (.vec κc, .r 1 eb (byteRows bs))], [(.vec κr, none), (.vec κ2, none), (.vec κc, none), (.vec κ3, some (.o (.nest e eb (ms ++ [bs]) h) ks))] ++ wrD o.dst (.v (.one (.row κ3))), [κ3]⟩ :=
  opok_val hd fun G ρ s a w hrel hr hf => by
    obtain ⟨r12, r3⟩ := Reads.app.1 hr
    obtain ⟨r1, r2⟩ := Reads.app.1 r12
    obtain ⟨q1, r3⟩ := Reads.cons.1 r3
    obtain ⟨q2, r3⟩ := Reads.cons.1 r3
    obtain ⟨q3, _⟩ := Reads.cons.1 r3
    simp only at q1 q2 q3
    obtain ⟨_, e1, _⟩ := ev_rep hx r1 hrel
    obtain ⟨_, e2, _⟩ := ev_rep hz r2 hrel
    obtain ⟨Y, ⟨us, hn⟩, hYX⟩ := hrel.vec κr _ q1
    obtain ⟨u0, hu0, hrow2, A, nn, cc, hA⟩ := hrel.vec κ2 _ q2
    simp only [List.map_cons, List.map_nil, List.cons.injEq, and_true] at hu0
    have hbv : VecRep G w (ρ κc) 1 eb (byteRows bs) := hrel.vec κc _ q3
    have hbytesC := bytes_of_vec hbv
    have hκ12 : κr ≠ κ2 := by rintro rfl; rw [q1] at q2; simp at q2
    have hκ1c : κr ≠ κc := by rintro rfl; rw [q1] at q3; simp at q3
    have hκ2c : κ2 ≠ κc := by rintro rfl; rw [q2] at q3; simp at q3
    have hfresh : ¬ Mentions s κ3 := hf κ3 (by simp)
    have hv2 : VecRep G w (ρ κ2) 1 e [lit1 u0] := by
      have := vec_of_own (G := G) hrow2 (by intro x hx; simp at hx; rw [hx, hA]; rfl)
      simpa using this
    obtain ⟨news, hsrc⟩ := src_vec hv2
    obtain ⟨v', w', g1, g2, g3, g4⟩ := append_rep (P := C.P) (t := t) (u := u) (ty := o.type) (j := j) ht hk hu hku hj (by omega) (rows := us.map lit1) (xr := [lit1 u0]) (vx := ρ κ2) (v := ρ κr) (G := G) (by rw [hj1]; exact hn.vec) (news := news) (by rw [hj1]; exact hsrc) (by simp [hn.len]; exact hlen) (by simp [hn.len]; exact hbytes)
    rw [hj1] at g2
    have g2' : VecRep G w' v' 1 e ((us ++ [u0]).map lit1) := by simpa using g2
    obtain ⟨g5, g6⟩ := own_of_vec g2'
    have hul : (us ++ [u0]).length = (ms ++ [bs]).length := by simp [hn.len]
    rw [hul] at g5
    rw [← e1, ← e2] at g1
    -- the blocks
    have howr : ∀ b, Y b → Owns ρ (.vec κr) κr b := fun b hb => (hYX b hb).imp id fun h => ⟨rfl, h⟩
    have hblkr : ∀ b, (ρ κr).ownBlock = some b → Owns ρ (.vec κr) κr b := fun b hb => .inl (ownBlock_blk hb)
    have hsame : ∀ b, b < w.heap.size → blk (ρ κr) ≠ some b → w'.heap[b]? = w.heap[b]? := fun b hb hne => g3.block b hb fun e => hne (ownBlock_blk e.symm)
    have hcblk : ∀ b, blk u0 = some b → Owns ρ (.vec κc) κc b := fun b hb => .inl (by rw [hu0]; exact hb)
    have hcne : ∀ b, blk u0 = some b → ¬ Owns ρ (.vec κr) κr b := fun b hb ho => hκ1c (hrel.inj _ _ _ _ κr κc b q1 q3 rfl rfl ho (hcblk b hb))
    have hvnew : ∀ b, blk v' = some b → blk (ρ κr) = some b ∨ w.heap.size ≤ b := g4
    let Y' : Nat → Prop := fun b => Y b ∨ blk u0 = some b ∨ blk v' = some b
    have hYlt : ∀ b, Y b → b < w.heap.size := fun b hb => (hrel.live _ _ κr b q1 rfl (howr b hb)).2.1
    have hnest : NestU w' e eb (ms ++ [bs]) h v' Y' (ks.map ρ.v) (us ++ [u0]) := by
      refine ⟨g5, fun b hb => .inr (.inr hb), ?_, ?_, ?_, ?_⟩
      · intro i' m u' hm hu' hh'
        by_cases hi : i' < ms.length
        · rw [List.getElem?_append_left hi] at hm
          rw [List.getElem?_append_left (by rw [hn.len]; exact hi)] at hu'
          refine own_same (hn.own i' m u' hm hu' hh') fun b hb => ?_
          obtain ⟨k1, k2⟩ := hn.ownB i' u' b hu' hh' hb
          exact hsame b (hYlt b k1) k2
        · rw [List.getElem?_append_right (by omega)] at hm
          rw [List.getElem?_append_right (by rw [hn.len]; omega), hn.len] at hu'
          have hi0 : i' - ms.length = 0 := by
            rcases Nat.eq_zero_or_pos (i' - ms.length) with h0 | h0
            · exact h0
            · rw [List.getElem?_eq_none (by simp; omega)] at hm; simp at hm
          rw [hi0] at hm hu'
          simp at hm hu'
          subst hm; subst hu'
          rw [hu0] at hbytesC
          refine own_same hbytesC fun b hb => ?_
          exact hsame b (hrel.live _ _ κc b q3 rfl (hcblk b hb)).2.1 fun e => hcne b hb (.inl e)
      · intro i' u' b hu' hh' hb
        by_cases hi : i' < ms.length
        · rw [List.getElem?_append_left (by rw [hn.len]; exact hi)] at hu'
          obtain ⟨k1, k2⟩ := hn.ownB i' u' b hu' hh' hb
          refine ⟨.inl k1, fun e => ?_⟩
          rcases hvnew b e with h1 | h1
          · exact k2 h1
          · have := hYlt b k1; omega
        · rw [List.getElem?_append_right (by rw [hn.len]; omega), hn.len] at hu'
          have hi0 : i' - ms.length = 0 := by
            rcases Nat.eq_zero_or_pos (i' - ms.length) with h0 | h0
            · exact h0
            · rw [List.getElem?_eq_none (by simp; omega)] at hu'; simp at hu'
          rw [hi0] at hu'
          simp at hu'
          subst hu'
          refine ⟨.inr (.inl hb), fun e => ?_⟩
          rcases hvnew b e with h1 | h1
          · exact hcne b hb (.inl h1)
          · have := (hrel.live _ _ κc b q3 rfl (hcblk b hb)).2.1; omega
      · intro i' hi'
        obtain ⟨k1, u', k2, k3, k4⟩ := hn.hole i' hi'
        exact ⟨by simp; omega, u', by rw [List.getElem?_append_left (by rw [hn.len]; exact k1)]; exact k2, k3, k4⟩
      · have hcase : ∀ i' u', (us ++ [u0])[i']? = some u' → (i' < ms.length ∧ us[i']? = some u') ∨ (i' = ms.length ∧ u' = u0) := by
          intro i' u' hu'
          by_cases hi : i' < ms.length
          · rw [List.getElem?_append_left (by rw [hn.len]; exact hi)] at hu'
            exact .inl ⟨hi, hu'⟩
          · rw [List.getElem?_append_right (by rw [hn.len]; omega), hn.len] at hu'
            have hi0 : i' - ms.length = 0 := by
              rcases Nat.eq_zero_or_pos (i' - ms.length) with h0 | h0
              · exact h0
              · rw [List.getElem?_eq_none (by simp; omega)] at hu'; simp at hu'
            rw [hi0] at hu'
            simp at hu'
            exact .inr ⟨by omega, hu'.symm⟩
        intro i1 i2 u1 u2 b h1 h2 n1 n2 b1 b2
        rcases hcase i1 u1 h1 with ⟨c1, d1⟩ | ⟨c1, rfl⟩ <;> rcases hcase i2 u2 h2 with ⟨c2, d2⟩ | ⟨c2, rfl⟩
        · exact hn.apart i1 i2 u1 u2 b d1 d2 n1 n2 b1 b2
        · exact absurd (howr b (hn.ownB i1 u1 b d1 n1 b1).1) (hcne b b2)
        · exact absurd (howr b (hn.ownB i2 u2 b d2 n2 b2).1) (hcne b b1)
        · omega
    have hsl : ∃ A c, v' = .slice A (ms ++ [bs]).length c := own_slice g5
    obtain ⟨A', c', hA'⟩ := hsl
    refine ⟨v', w', G, setX ρ κ3 v' Y', run_append ho v' w' g1, ?_, ⟨by rw [hA']; rfl, (setX_same _ _ _ _).symm, A', _, c', by rw [setX_same]; exact hA'⟩⟩
    have hne : ∀ k, Mentions s k → k ≠ κ3 := fun k hk e => hfresh (e ▸ hk)
    have hs' : ∀ l x, applys s [(Loc.vec κr, none), (.vec κ2, none), (.vec κc, none), (.vec κ3, some (.o (.nest e eb (ms ++ [bs]) h) ks))] l = some x → (s l = some x ∧ l ≠ .vec κr ∧ l ≠ .vec κ2 ∧ l ≠ .vec κc ∧ l ≠ .vec κ3) ∨ (l = .vec κ3 ∧ x = .o (.nest e eb (ms ++ [bs]) h) ks) := by
      intro l x hl
      simp only [applys, List.foldl_cons, List.foldl_nil, upd] at hl
      by_cases h3 : l = .vec κ3
      · rw [if_pos h3] at hl; injection hl with hl; exact .inr ⟨h3, hl.symm⟩
      · rw [if_neg h3] at hl
        by_cases h4 : l = .vec κc
        · rw [if_pos h4] at hl; simp at hl
        · rw [if_neg h4] at hl
          by_cases h5 : l = .vec κ2
          · rw [if_pos h5] at hl; simp at hl
          · rw [if_neg h5] at hl
            by_cases h6 : l = .vec κr
            · rw [if_pos h6] at hl; simp at hl
            · rw [if_neg h6] at hl; exact .inl ⟨hl, h6, h5, h4, h3⟩
    have how3 : ∀ b, Owns (setX ρ κ3 v' Y') (.vec κ3) κ3 b → Y' b := by
      rintro b (hb | ⟨_, hb⟩)
      · rw [setX_same] at hb; exact .inr (.inr hb)
      · rw [setX_X_same] at hb; exact hb
    refine hrel.trade g3.os g3.tape g3.output g3.size (D := [κr, κ2, κc]) (N := [κ3]) ?_ ?_ ?_ (fun k hk => setX_ne _ _ _ (hne k hk)) (fun k hk _ => setX_X_ne _ _ _ (hne k hk)) ?_ ?_ ?_
    · intro k hk
      simp only [List.mem_cons, List.not_mem_nil, or_false] at hk
      rcases hk with rfl | rfl | rfl
      · exact ⟨_, q1⟩
      · exact ⟨_, q2⟩
      · exact ⟨_, q3⟩
    · intro b hb hno
      exact hsame b hb fun e => hno κr (by simp) (.inl e)
    · intro l x hl
      rcases hs' l x hl with ⟨h1, h2, h3, h4, h5⟩ | ⟨rfl, _⟩
      · refine .inl ⟨h1, fun k hk => ?_⟩
        simp only [List.mem_cons, List.not_mem_nil, or_false] at hk
        rcases hk with rfl | rfl | rfl
        · exact h2
        · exact h3
        · exact h4
      · exact .inr ⟨κ3, by simp, rfl⟩
    · intro k x hk hx
      simp at hk; subst hk
      rcases hs' _ x hx with ⟨_, _, _, _, h5⟩ | ⟨_, rfl⟩
      · exact absurd rfl h5
      · show Tag.rep (.nest e eb (ms ++ [bs]) h) w' (setX ρ k v' Y' k) ((setX ρ k v' Y').X k) (ks.map (setX ρ k v' Y').v)
        rw [setX_same, setX_X_same]
        have : ks.map (setX ρ k v' Y').v = ks.map ρ.v := List.map_congr_left fun k' hk' => setX_ne _ _ _ (by rintro rfl; exact hks hk')
        rw [this]
        exact ⟨Y', ⟨_, hnest⟩, fun b hb => .inr hb⟩
    · intro k x b hk hx hb
      simp at hk; subst hk
      have hY := how3 b hb
      rcases hY with hY | hY | hY
      · exact ⟨Nat.lt_of_lt_of_le (hYlt b hY) g3.size, .inl ⟨κr, by simp, howr b hY⟩⟩
      · exact ⟨Nat.lt_of_lt_of_le (hrel.live _ _ κc b q3 rfl (hcblk b hY)).2.1 g3.size, .inl ⟨κc, by simp, hcblk b hY⟩⟩
      · refine ⟨g2.blk_lt hY, ?_⟩
        rcases hvnew b hY with h1 | h1
        · exact .inl ⟨κr, by simp, .inl h1⟩
        · exact .inr h1
    · intro k k' b hk hk' _ _
      simp at hk hk'; rw [hk, hk']

/-! #### a row of bytes that is converted: a tree from then on -/
theorem RelG.addG {G : Heap} {ρ : Places} {s : State} {a : Act} {w : World} (h : RelG C G ρ s a w) (b0 : Nat) (hB : C.MV b0 ∨ C.w0.heap.size ≤ b0) (hno : ∀ l c κ, s l = some c → l.key = some κ → ¬ Owns ρ l κ b0) :
    RelG C (fun b => if b = b0 then w.heap[b]? else G b) ρ s a w ∧ GExt G (fun b => if b = b0 then w.heap[b]? else G b) := by
  let G' : Heap := fun b => if b = b0 then w.heap[b]? else G b
  have hG : GExt G G' := fun b o hb => by
    show (if b = b0 then w.heap[b]? else G b) = some o
    split
    · exact h.gle b o hb
    · exact hb
  have hle : GLe G' w := fun b o hb => by
    change (if b = b0 then w.heap[b]? else G b) = some o at hb
    split at hb
    · exact hb
    · exact h.gle b o hb
  refine ⟨⟨h.os, h.tape, h.output, h.size, h.block, hle, fun b o hb => hG b o (h.g0 b o hb), ?_, h.keep, h.old, h.defers, h.ntmps, ?_, h.inj, ?_, ?_, ?_⟩, hG⟩
  · intro b o hb
    change (if b = b0 then w.heap[b]? else G b) = some o at hb
    split at hb
    · rename_i e; subst e
      rcases hB with h1 | h1
      · exact .inr (.inr h1)
      · exact .inr (.inl h1)
    · exact h.gnew b o hb
  · intro l c κ b hl hk hb
    obtain ⟨h1, h2, h3⟩ := h.live l c κ b hl hk hb
    refine ⟨?_, h2, h3⟩
    show (if b = b0 then w.heap[b]? else G b) = none
    rw [if_neg]
    · exact h1
    · rintro rfl; exact hno l c κ hl hk hb
  · intro n x hx
    obtain ⟨v, y, e1, e2, e3⟩ := h.slot n x hx
    exact ⟨v, y, e1, e2, e3.move hG fun _ _ => rfl⟩
  · intro κ k x hx
    obtain ⟨y, b, u, c, e, e1, e2, e3, e4, e5⟩ := h.cell κ k x hx
    exact ⟨y, b, u, c, e, e1, e2, e3, e4, e5.move hG fun _ _ => rfl⟩
  · intro κ x hx
    exact (h.vec κ x hx).same hG fun _ _ => rfl

theorem run_mark {P : Program} {t e : TypeId} (ht : P.underlying t = some (.slice e)) (he : P.underlying e = some (.int .u8)) (w : World) (b n c : Nat) (cur : Array Value) (el : TypeId) (hb : w.heap[b]? = some (.cells cur el (0, 0))) :
    (convert t t (.slice (some ⟨b, 0, none⟩) n c)).run P w = .ok (.slice (some ⟨b, 0, none⟩) n c) (w.freeze ⟨b, cur.size, none⟩ 1) := by
  have hsh : w.shape? b = some (el, cur.size) := by simp [World.shape?, hb]
  simp [convert, run_underlying ht, run_underlying he, markStringish, hsh]

theorem ok_mark {t e et : TypeId} {i j : TInfo} {x : Operand} {κ : Nat} {r : List T} {rows : List (List T)} (ho : o.op = .convert t t x) (hd : dstOK C o.dst) (ht : tinfo C.P t = some i) (hk : i.k = .slice e) (hj : tinfo C.P e = some j) (hk2 : j.k = .int .u8)
    (hx : ev g x = some (.v (.one (.row κ)))) : OpOK C o ⟨evr g x ++ [(.vec κ, .r 1 et (r :: rows))], [(.vec κ, none)] ++ wrD o.dst (.v (.one (.t (.sl 1 (r :: rows))))), []⟩ :=
  opok_val hd fun G ρ s a w hrel hr hf => by
    obtain ⟨r1, r2⟩ := Reads.app.1 hr
    have r2 := (Reads.cons.1 r2).1
    obtain ⟨_, e1, _⟩ := ev_rep hx r1 hrel
    have hv : VecRep G w (ρ κ) 1 et (r :: rows) := hrel.vec κ _ r2
    obtain ⟨h0, xs, hown, hel⟩ := hv
    rcases hown.2 with ⟨_, h1⟩ | ⟨b, cap, cur, f1, f2, f3, f4, f5, f6, f7⟩
    · simp at h1
    have he : C.P.underlying e = some (.int .u8) := by
      obtain ⟨_, d, _, hs⟩ := tinfo_spec hj
      have h1 := hs.k
      have h2 := hs.und
      rw [hk2] at h1
      cases d <;> simp [tkOf] at h1
      subst h1
      exact h2
    have hrun := run_mark (P := C.P) (und_slice ht hk) he w b (r :: rows).length cap cur et f3
    let w' := w.freeze ⟨b, cur.size, none⟩ 1
    have hb' : w'.heap[b]? = some (.cells cur et (cur.size, cur.size + 1)) := by
      show (w.freeze ⟨b, cur.size, none⟩ 1).heap[b]? = _
      simp [World.freeze, Array.getElem?_modify, f3]
    have hoth : ∀ k, k ≠ b → w'.heap[k]? = w.heap[k]? := by
      intro k hk
      show (w.freeze ⟨b, cur.size, none⟩ 1).heap[k]? = _
      simp [World.freeze, Array.getElem?_modify, Ne.symm hk]
    have hgb : w.grownBy w' (ρ κ).ownBlock := by
      refine ⟨rfl, rfl, rfl, ?_, fun k _ hk => hoth k fun e => hk (by rw [f1, e]; rfl)⟩
      show w.heap.size ≤ (w.freeze ⟨b, cur.size, none⟩ 1).heap.size
      simp [World.freeze]
    have h1 := hrel.steal r2 hgb
    have hblk : blk (ρ κ) = some b := by rw [f1]; rfl
    obtain ⟨l1, l2, l3⟩ := hrel.live _ _ κ b r2 rfl (.inl hblk)
    have hB : C.MV b ∨ C.w0.heap.size ≤ b := by
      rcases l3 with ⟨_, h2, h3⟩ | h2 | h2
      · exact .inl ⟨κ, h2, h3⟩
      · exact .inl h2
      · exact .inr h2
    obtain ⟨h2, hG⟩ := h1.addG b hB fun l c k hl hk ho => by
      by_cases e : l = .vec κ
      · subst e; rw [upd_same] at hl; simp at hl
      · rw [upd_ne _ _ e] at hl
        have := hrel.inj l c _ _ k κ b hl r2 hk rfl ho (.inl hblk)
        subst this
        exact e (vec_only hrel r2 hl hk)
    refine ⟨.slice (some ⟨b, 0, none⟩) (r :: rows).length cap, w', _, ρ, ?_, h2, ⟨rfl, ?_⟩⟩
    · simp only [execOp, ho, e1, f1, Sem.run_bind, hrun, Result.andThen_ok, Sem.run_pure]; rfl
    · skip
      have hxx : ∀ (j : Nat) u, xs[j]? = some u → cur[j]? = some u := by
        intro j u hj
        rw [← f7, List.getElem?_take] at hj
        split at hj
        · simpa using hj
        · simp at hj
      refine .sl _ _ _ _ _ (fun i k => xs.getD (i * 1 + k) (.bool false)) rfl f4 h0 (.inl rfl) ?_ ?_
      · intro ad he i k hi hk
        simp at he
        subst he
        have hc : (r :: rows)[i]? = some (r :: rows)[i] := List.getElem?_eq_getElem hi
        obtain ⟨u, h1, h2, _⟩ := hel i _ k _ hc (List.getElem?_eq_getElem (by rw [h0 i _ hc]; exact hk))
        rw [List.getD_eq_getElem?_getD, h1]
        refine ⟨?_, h2⟩
        rw [add_add, Addr.add_lit]
        simp only [gcell, Nat.zero_add, if_true]
        rw [hb']
        simpa using hxx _ _ h1
      · intro i cells k t hi hk
        obtain ⟨u, h1, _, h3⟩ := hel i cells k t hi hk
        rw [List.getD_eq_getElem?_getD, h1]
        exact h3.ext hG
end Go.AM
set_option linter.unusedVariables false
set_option linter.unusedSimpArgs false
namespace Go.AM
open Go.RowKit
variable {C : Ctx} {g : State} {o : Oper}

/-! ### M7. Blocks of many cells -/
def litAt : At → Value
  | .t (.lit v) => v
  | _ => .bool false
def isLit : At → Bool
  | .t (.lit _) => true
  | _ => false
def cellsF (f : Nat → Value) (off m : Nat) : List At := (List.range m).map fun j => .t (.lit (f (off + j)))
def litsF (cs : List At) (j : Nat) : Value := litAt (cs.getD j (.t (.lit (.bool false))))
def putF (f : Nat → Value) (j : Nat) (cs : List At) : Nat → Value := fun q => if j ≤ q ∧ q < j + cs.length then litsF cs (q - j) else f q
theorem cellsF_length (f : Nat → Value) (off m : Nat) : (cellsF f off m).length = m := by simp [cellsF]
theorem cellsF_lit (f : Nat → Value) (off m : Nat) : (cellsF f off m).all isLit = true := by
  rw [List.all_eq_true]; intro c hc
  obtain ⟨j, _, rfl⟩ := List.mem_map.1 hc; rfl
theorem cellsF_get (f : Nat → Value) (off m j : Nat) (h : j < m) : (cellsF f off m)[j]? = some (.t (.lit (f (off + j)))) := by
  unfold cellsF
  rw [List.getElem?_map, List.getElem?_range h]; rfl
theorem litsF_cellsF (f : Nat → Value) (off m j : Nat) (h : j < m) : litsF (cellsF f off m) j = f (off + j) := by
  unfold litsF
  rw [List.getD_eq_getElem?_getD, cellsF_get f off m j h]; rfl
theorem putF_one (f : Nat → Value) (j : Nat) (v : Value) : putF f j [.t (.lit v)] = fun q => if q = j then v else f q := by
  funext q
  unfold putF
  by_cases h : q = j
  · subst h; simp [litsF, litAt]
  · rw [if_neg h, if_neg]; simp only [List.length_cons, List.length_nil]; omega

theorem lits_vals {G : Heap} {ρ : Places} : ∀ {vs : List Value} {cs : List At}, All2 (AtRep G ρ) vs cs → cs.all isLit = true → ∀ (j : Nat) u, vs[j]? = some u → u = litsF cs j ∧ u.oneCell' = true
  | _, _, .nil, _, j, u, hu => by simp at hu
  | v :: vs, c :: cs, .cons h t, hl, j, u, hu => by
    simp only [List.all_cons, Bool.and_eq_true] at hl
    cases j with
    | zero =>
      simp at hu; subst hu
      cases c with
      | t x => cases x with
        | lit v' =>
          obtain ⟨h1, h2⟩ := h
          exact ⟨h2.lit_inv, h1⟩
        | _ => simp [isLit] at hl
      | _ => simp [isLit] at hl
    | succ j =>
      have := lits_vals t hl.2 j u (by simpa using hu)
      exact ⟨this.1, this.2⟩

theorem mem_there {G : Heap} {ρ : Places} {s : State} {a : Act} {w : World} (hrel : RelG C G ρ s a w) {κ n : Nat} {e : TypeId} {f : Nat → Value} {h : Option Nat} {ks : List Nat} (hv : s (.vec κ) = some (.o (.mem e n f h) ks)) {b n' c' : Nat} (hb : ρ κ = .slice (some ⟨b, 0, none⟩) n' c') :
    ∃ c, BlkAt w e n f h b (ks.map ρ.v) c := by
  obtain ⟨b', c, h1, h2⟩ := hrel.vec κ _ hv
  rw [hb] at h1
  simp at h1
  obtain ⟨rfl, _, _⟩ := h1
  exact ⟨c, h2⟩

/-- One cell. -/
theorem ok_load_mem {t e : TypeId} {i : TInfo} {x : Operand} {κ sz ix k n : Nat} {f : Nat → Value} {h : Option Nat} {ks : List Nat} (ho : o.op = .load t x) (hd : dstOK C o.dst) (ht : tinfo C.P t = some i) (h1 : i.size = 1) (h2 : i.agg = false)
    (hx : evp g x = some (.v (.one (.vptr κ sz ix k)))) (hj : ix * sz + k < n) (hh : h ≠ some (ix * sz + k)) : OpOK C o ⟨evr g x ++ [(.vec κ, .o (.mem e n f h) ks)], wrD o.dst (sv (f (ix * sz + k))), []⟩ :=
  opok_pure hd fun G ρ s a w hrel hr => by
    obtain ⟨r1, r2⟩ := Reads.app.1 hr
    have r2 := (Reads.cons.1 r2).1
    obtain ⟨_, b, n', c', e1, e2⟩ := evp_rep hx r1 hrel
    obtain ⟨cur, hB⟩ := mem_there hrel r2 e1
    obtain ⟨q1, q2⟩ := hB.cell _ hj hh
    have := run_loadVar ht w ⟨b, ix * sz + k, none⟩ [f (ix * sz + k)] (by simp [h1]) (fun _ => rfl) fun j v hj => by
      match j, hj with
      | 0, hj =>
        simp at hj; subst hj
        rw [Addr.add_lit]
        simp [World.cell?, hB.heap, q1]
      | j + 1, hj => simp at hj
    rw [h2] at this
    simp only [Bool.false_eq_true, if_false, List.headD] at this
    exact ⟨_, by simp [execOp, ho, e2, Instr.loadAt, Instr.sureAddr, this], sv_rep q2⟩

/-- The cell that holds a slice. -/
theorem ok_load_memH {t e : TypeId} {i : TInfo} {x : Operand} {κ sz ix k n κm : Nat} {f : Nat → Value} (ho : o.op = .load t x) (hd : dstOK C o.dst) (ht : tinfo C.P t = some i) (h1 : i.size = 1) (h2 : i.agg = false)
    (hx : evp g x = some (.v (.one (.vptr κ sz ix k)))) : OpOK C o ⟨evr g x ++ [(.vec κ, .o (.mem e n f (some (ix * sz + k))) [κm])], wrD o.dst (.v (.one (.row κm))), []⟩ :=
  opok_pure hd fun G ρ s a w hrel hr => by
    obtain ⟨r1, r2⟩ := Reads.app.1 hr
    have r2 := (Reads.cons.1 r2).1
    obtain ⟨_, b, n', c', e1, e2⟩ := evp_rep hx r1 hrel
    obtain ⟨cur, hB⟩ := mem_there hrel r2 e1
    obtain ⟨q0, u, q1, q2, A, m, kk, q3⟩ := hB.hole _ rfl
    have := run_loadVar ht w ⟨b, ix * sz + k, none⟩ [u] (by simp [h1]) (fun _ => rfl) fun j v hj => by
      match j, hj with
      | 0, hj =>
        simp at hj; subst hj
        rw [Addr.add_lit]
        simp [World.cell?, hB.heap, q1]
      | j + 1, hj => simp at hj
    rw [h2] at this
    simp only [Bool.false_eq_true, if_false, List.headD] at this
    simp only [List.map_cons, List.map_nil, List.cons.injEq, and_true] at q2
    exact ⟨u, by simp [execOp, ho, e2, Instr.loadAt, Instr.sureAddr, this], ⟨by rw [q3]; rfl, q2.symm, A, m, kk, by rw [q2]; exact q3⟩⟩

def offHole (h : Option Nat) (j m : Nat) : Bool := match h with
  | some q => decide (q < j ∨ j + m ≤ q)
  | none => true
theorem offHole_ne {h : Option Nat} {j m q : Nat} (hh : offHole h j m = true) (h1 : j ≤ q) (h2 : q < j + m) : h ≠ some q := by
  rintro rfl
  simp only [offHole, decide_eq_true_eq] at hh
  omega

/-- Many cells. -/
theorem ok_load_memN {t e : TypeId} {i : TInfo} {x : Operand} {κ sz ix k n : Nat} {f : Nat → Value} {h : Option Nat} {ks : List Nat} (ho : o.op = .load t x) (hd : dstOK C o.dst) (ht : tinfo C.P t = some i) (h2 : i.agg = true)
    (hx : evp g x = some (.v (.one (.vptr κ sz ix k)))) (hj : ix * sz + k + i.size ≤ n) (hh : offHole h (ix * sz + k) i.size = true) : OpOK C o ⟨evr g x ++ [(.vec κ, .o (.mem e n f h) ks)], wrD o.dst (.v (.agg (cellsF f (ix * sz + k) i.size))), []⟩ :=
  opok_pure hd fun G ρ s a w hrel hr => by
    obtain ⟨r1, r2⟩ := Reads.app.1 hr
    have r2 := (Reads.cons.1 r2).1
    obtain ⟨_, b, n', c', e1, e2⟩ := evp_rep hx r1 hrel
    obtain ⟨cur, hB⟩ := mem_there hrel r2 e1
    have hc : ∀ q, q < i.size → cur[ix * sz + k + q]? = some (f (ix * sz + k + q)) ∧ (f (ix * sz + k + q)).oneCell' = true := fun q hq => hB.cell _ (by omega) (offHole_ne hh (by omega) (by omega))
    have := run_loadVar ht w ⟨b, ix * sz + k, none⟩ ((List.range i.size).map fun q => f (ix * sz + k + q)) (by simp) (fun h => by rw [h2] at h; simp at h) fun j v hj => by
      have hjl : j < i.size := by have := (List.getElem?_eq_some_iff.1 hj).1; simpa using this
      rw [List.getElem?_map, List.getElem?_range hjl] at hj
      simp at hj; subst hj
      rw [Addr.add_lit]
      simp [World.cell?, hB.heap, (hc j hjl).1]
    rw [h2] at this
    simp only [if_true] at this
    refine ⟨_, by simp [execOp, ho, e2, Instr.loadAt, Instr.sureAddr, this], ⟨(List.range i.size).map fun q => f (ix * sz + k + q), rfl, ?_⟩⟩
    refine All2.of_get (by simp [cellsF_length]) fun q u c hu hk => ?_
    have hql : q < i.size := by have := (List.getElem?_eq_some_iff.1 hu).1; simpa using this
    rw [cellsF_get _ _ _ _ hql] at hk
    rw [List.getElem?_map, List.getElem?_range hql] at hu
    simp at hu hk
    subst hu; subst hk
    exact ⟨(hc q hql).2, .lit _⟩

theorem RelG.memSet {G : Heap} {ρ : Places} {s : State} {a : Act} {w : World} (hrel : RelG C G ρ s a w) {κ n b : Nat} {e : TypeId} {f f' : Nat → Value} {h h' : Option Nat} {ks ks' : List Nat} {cur cur' : Array Value} (hv : s (.vec κ) = some (.o (.mem e n f h) ks))
    (hB : BlkAt w e n f h b (ks.map ρ.v) cur) (hb : ∃ n' c', ρ κ = .slice (some ⟨b, 0, none⟩) n' c') (hsz : cur'.size = n) (hcell : ∀ q, q < n → h' ≠ some q → cur'[q]? = some (f' q) ∧ (f' q).oneCell' = true)
    (hhole : ∀ i, h' = some i → i < n ∧ ∃ u, cur'[i]? = some u ∧ ks'.map ρ.v = [u] ∧ ∃ A m k, u = .slice A m k) : RelG C G ρ (upd s (.vec κ) (some (.o (.mem e n f' h') ks'))) a (w.setRow b cur') := by
  obtain ⟨b', c, h1, h2⟩ := hrel.vec κ _ hv
  obtain ⟨n', c', hb⟩ := hb
  rw [hb] at h1
  simp at h1
  obtain ⟨rfl, rfl, rfl⟩ := h1
  refine hrel.retag hv (w' := w.setRow b cur') rfl rfl rfl (size_setRow _ _ _) (fun b' hb' => setRow_other w b b' cur' fun e => hb' (.inl (by rw [hb, e]; rfl))) (fun _ _ => rfl) (fun _ _ => rfl) ?_
  exact ⟨b, cur', hb, setRow_heap w b cur cur' e (0, 0) hB.heap, hsz, hcell, hhole⟩

theorem ok_store_mem {t e : TypeId} {i : TInfo} {x z : Operand} {κ sz ix k n : Nat} {f : Nat → Value} {h : Option Nat} {ks : List Nat} {y : V1} (ho : o.op = .store t x z) (hd : o.dst = none) (ht : tinfo C.P t = some i)
    (hx : ev g x = some (.v (.one (.vptr κ sz ix k)))) (hz : ev g z = some (.v y)) (hy : y.cs.all isLit = true) (hyl : y.cs.length = i.size) (hj : ix * sz + k + i.size ≤ n) (hh : offHole h (ix * sz + k) i.size = true) :
    OpOK C o ⟨evr g x ++ evr g z ++ [(.vec κ, .o (.mem e n f h) ks)], [(.vec κ, some (.o (.mem e n (putF f (ix * sz + k) y.cs) h) ks))], []⟩ :=
  opok_skip hd fun G ρ s a w hrel hr hf => by
    obtain ⟨r12, r3⟩ := Reads.app.1 hr
    obtain ⟨r1, r2⟩ := Reads.app.1 r12
    have r3 := (Reads.cons.1 r3).1
    obtain ⟨_, b, n', c', e1, e2⟩ := ev_rep hx r1 hrel
    have h1 := V1Rep.cells (ev_rep hz r2 hrel)
    obtain ⟨cur, hB⟩ := mem_there hrel r3 e1
    have hcl : (a.eval z).cells.toList.length = i.size := by rw [h1.length, hyl]
    have hcs : (a.eval z).cells.size = i.size := by simpa using hcl
    have hcn := hB.size
    have hst := run_storeVar ht w b (ix * sz + k) (a.eval z) e cur hB.heap hcs (by omega) (All2.one h1)
    have hrun : (execOp a.eval o).run C.P w = .ok .skip (w.setRow b (cur.toList.take (ix * sz + k) ++ (a.eval z).cells.toList ++ cur.toList.drop (ix * sz + k + (a.eval z).cells.size)).toArray) := by
      simp only [execOp, ho, e2, Instr.storeAt, Instr.sureAddr, Sem.run_bind, Sem.run_pure, Result.andThen_ok, hst]
    refine ⟨_, G, ρ, hrun, ?_⟩
    have hrepl : cur.toList.take (ix * sz + k) ++ (a.eval z).cells.toList ++ cur.toList.drop (ix * sz + k + (a.eval z).cells.size) = repl cur.toList (ix * sz + k) (a.eval z).cells.toList := by
      unfold repl; rw [Array.length_toList]
    rw [hrepl]
    have hin : ix * sz + k + (a.eval z).cells.toList.length ≤ cur.toList.length := by rw [hcl, Array.length_toList]; omega
    have hget : ∀ q, (repl cur.toList (ix * sz + k) (a.eval z).cells.toList).toArray[q]? = if ix * sz + k ≤ q ∧ q < ix * sz + k + i.size then (a.eval z).cells.toList[q - (ix * sz + k)]? else cur[q]? := by
      intro q
      have ht : ∀ q, cur.toList[q]? = cur[q]? := fun q => Array.getElem?_toList
      rw [List.getElem?_toArray, repl_get _ _ _ hin, hcl, ht]
    refine hrel.memSet r3 hB ⟨_, _, e1⟩ (by rw [List.size_toArray, repl_length _ _ _ hin, Array.length_toList, hcn]) ?_ ?_
    · intro q hq hne
      rw [hget]
      unfold putF
      rw [hyl]
      split
      · rename_i hq2
        have hql : q - (ix * sz + k) < (a.eval z).cells.toList.length := by omega
        obtain ⟨g1, g2⟩ := lits_vals h1 hy (q - (ix * sz + k)) _ (List.getElem?_eq_getElem hql)
        rw [List.getElem?_eq_getElem hql, g1]
        exact ⟨rfl, g1 ▸ g2⟩
      · exact hB.cell q hq hne
    · intro q hq
      obtain ⟨q1, u, q2, q3⟩ := hB.hole q hq
      refine ⟨q1, u, ?_, q3⟩
      rw [hget, if_neg]
      · exact q2
      · rintro ⟨h3, h4⟩; exact offHole_ne hh h3 h4 hq

/-- Another slice into its cell. -/
theorem ok_store_memH {t e : TypeId} {i : TInfo} {x z : Operand} {κ κ2 sz ix k n : Nat} {f : Nat → Value} {ks : List Nat} (ho : o.op = .store t x z) (hd : o.dst = none) (ht : tinfo C.P t = some i) (h1 : i.size = 1)
    (hx : ev g x = some (.v (.one (.vptr κ sz ix k)))) (hz : ev g z = some (.v (.one (.row κ2)))) (hj : ix * sz + k < n) :
    OpOK C o ⟨evr g x ++ evr g z ++ [(.vec κ, .o (.mem e n f (some (ix * sz + k))) ks)], [(.vec κ, some (.o (.mem e n f (some (ix * sz + k))) [κ2]))], []⟩ :=
  opok_skip hd fun G ρ s a w hrel hr hf => by
    obtain ⟨r12, r3⟩ := Reads.app.1 hr
    obtain ⟨r1, r2⟩ := Reads.app.1 r12
    have r3 := (Reads.cons.1 r3).1
    obtain ⟨_, b, n', c', e1, e2⟩ := ev_rep hx r1 hrel
    obtain ⟨hone, e3, A, m, kk, e4⟩ := ev_rep hz r2 hrel
    obtain ⟨cur, hB⟩ := mem_there hrel r3 e1
    have hcn := hB.size
    have hcells : (a.eval z).cells = #[a.eval z] := cells_one hone ▸ (by have := cells_one hone; simp [this])
    have hcs : (a.eval z).cells.size = i.size := by rw [hcells, h1]; rfl
    have hst := run_storeVar ht w b (ix * sz + k) (a.eval z) e cur hB.heap hcs (by omega) (by rw [hcells]; intro u hu; simp at hu; subst hu; exact hone)
    have hrun : (execOp a.eval o).run C.P w = .ok .skip (w.setRow b (cur.toList.take (ix * sz + k) ++ (a.eval z).cells.toList ++ cur.toList.drop (ix * sz + k + (a.eval z).cells.size)).toArray) := by
      simp only [execOp, ho, e2, Instr.storeAt, Instr.sureAddr, Sem.run_bind, Sem.run_pure, Result.andThen_ok, hst]
    refine ⟨_, G, ρ, hrun, ?_⟩
    have hrepl : cur.toList.take (ix * sz + k) ++ (a.eval z).cells.toList ++ cur.toList.drop (ix * sz + k + (a.eval z).cells.size) = repl cur.toList (ix * sz + k) [a.eval z] := by
      unfold repl; rw [hcells]; rfl
    rw [hrepl]
    have hin : ix * sz + k + [a.eval z].length ≤ cur.toList.length := by rw [Array.length_toList]; simp; omega
    have hget : ∀ q, (repl cur.toList (ix * sz + k) [a.eval z]).toArray[q]? = if ix * sz + k ≤ q ∧ q < ix * sz + k + 1 then [a.eval z][q - (ix * sz + k)]? else cur[q]? := by
      intro q
      have ht : ∀ q, cur.toList[q]? = cur[q]? := fun q => Array.getElem?_toList
      rw [List.getElem?_toArray, repl_get _ _ _ hin, ht]; rfl
    refine hrel.memSet r3 hB ⟨_, _, e1⟩ (by rw [List.size_toArray, repl_length _ _ _ hin, Array.length_toList, hcn]) ?_ ?_
    · intro q hq hne
      rw [hget, if_neg]
      · exact hB.cell q hq hne
      · rintro ⟨h3, h4⟩; exact hne (by rw [show q = ix * sz + k by omega])
    · intro q hq
      simp only [Option.some.injEq] at hq
      subst hq
      refine ⟨hj, a.eval z, ?_, ?_, A, m, kk, e3.trans e4⟩
      · rw [hget, if_pos ⟨Nat.le_refl _, by omega⟩, Nat.sub_self]; rfl
      · simp only [List.map_cons, List.map_nil]; rw [e3]

theorem ok_index_mem {t e : TypeId} {i j : TInfo} {x z : Operand} {yz : SV} {k : IntKind} {ix : Int} {n κ sz a0 k0 : Nat} (ho : o.op = .indexAddr t x z) (hd : dstOK C o.dst) (ht : tinfo C.P t = some i) (hk : i.k = .array n e) (hj : tinfo C.P e = some j)
    (hx : ev g x = some (.v (.one (.vptr κ sz a0 k0)))) (hz : ev g z = some yz) (hvz : litV yz = some (.int k ix)) (h0 : 0 ≤ ix) (hlt : ix < n) :
    OpOK C o ⟨evr g x ++ evr g z, wrD o.dst (.v (.one (.vptr κ 1 (a0 * sz + k0 + ix.toNat * j.size) 0))), []⟩ :=
  opok_pure hd fun G ρ s a w hrel hr => by
    obtain ⟨r1, r2⟩ := Reads.app.1 hr
    obtain ⟨_, b, n', c', e1, e2⟩ := ev_rep hx r1 hrel
    have e3 := (litV_rep hvz (ev_rep hz r2 hrel)).1
    have := run_indexAt_array ht hk hj (P := C.P) ⟨b, a0 * sz + k0, none⟩ k ix h0 hlt w
    rw [Addr.add_lit] at this
    exact ⟨.pointer (some ⟨b, a0 * sz + k0 + ix.toNat * j.size, none⟩), by simp [execOp, ho, e2, e3, this], ⟨rfl, b, n', c', e1, by simp⟩⟩

def zeroF (P : Program) (t : TypeId) (j : Nat) : Value := match tinfo P t with
  | some i => i.zero.getD j (.bool false)
  | none => .bool false
def zeroOne (P : Program) (t : TypeId) : Bool := match tinfo P t with
  | some i => i.zero.all (·.oneCell')
  | none => false

theorem zeroF_get {P : Program} {t : TypeId} {i : TInfo} (ht : tinfo P t = some i) {j : Nat} (h : j < i.zero.length) : i.zero[j]? = some (zeroF P t j) := by
  unfold zeroF
  rw [ht]
  simp only [List.getD_eq_getElem?_getD, List.getElem?_eq_getElem h, Option.getD_some]

theorem RelG.newMem {G : Heap} {ρ : Places} {s : State} {a : Act} {w : World} (h : RelG C G ρ s a w) {κ : Nat} (hκ : ¬ Mentions s κ) (cs : Array Value) (t : TypeId) (f : Nat → Value) (hc : ∀ q, q < cs.size → cs[q]? = some (f q) ∧ (f q).oneCell' = true) :
    RelG C G (setX ρ κ (.slice (some ⟨w.heap.size, 0, none⟩) 0 0) fun _ => False) (upd s (.vec κ) (some (.o (.mem t cs.size f none) []))) a { w with heap := w.heap.push (.cells cs t) } :=
  h.newTag hκ (Grew.push w _) (by simp) ⟨w.heap.size, cs, rfl, heap_push _ _, rfl, fun q hq _ => hc q hq, by simp⟩ fun b hb => by
    simp [blk] at hb; subst hb; simp

theorem ok_alloc_mem {t : TypeId} {i : TInfo} {κ : Nat} (ho : o.op = .alloc t) (hd : dstOK C o.dst) (ht : tinfo C.P t = some i) (h1 : zeroOne C.P t = true) :
    OpOK C o ⟨[], [(.vec κ, some (.o (.mem t i.size (zeroF C.P t) none) []))] ++ wrD o.dst (.v (.one (.vptr κ 1 0 0))), [κ]⟩ :=
  opok_val hd fun G ρ s a w hrel hr hf => by
    obtain ⟨inf, d, z, hs⟩ := tinfo_spec ht
    have hz : z.cells = i.zero.toArray := by rw [← hs.cells]
    have hsz : z.cells.size = i.size := hs.zsize
    refine ⟨.pointer (some ⟨w.heap.size, 0, none⟩), { w with heap := w.heap.push (.cells z.cells t) }, G, setX ρ κ (.slice (some ⟨w.heap.size, 0, none⟩) 0 0) fun _ => False, ?_, ?_, ⟨rfl, w.heap.size, 0, 0, setX_same _ _ _ _, rfl⟩⟩
    · simp [execOp, ho, Instr.alloc, hs.run_zero, newVar, newRow]
    · rw [← hsz]
      refine hrel.newMem (hf κ (by simp)) z.cells t _ fun q hq => ?_
      have hql : q < i.zero.length := by rw [hz] at hq; simpa using hq
      have := zeroF_get ht hql
      refine ⟨by rw [hz]; simpa using this, ?_⟩
      unfold zeroOne at h1
      rw [ht] at h1
      exact List.all_eq_true.1 h1 _ (List.mem_of_getElem? this)

theorem ok_box_mem {t : TypeId} {x : Operand} {cs : List At} {κ : Nat} (ho : o.op = .box t x) (hd : dstOK C o.dst) (hx : ev g x = some (.v (.agg cs))) (hl : cs.all isLit = true) :
    OpOK C o ⟨evr g x, [(.vec κ, some (.o (.mem t cs.length (litsF cs) none) []))] ++ wrD o.dst (.v (.one (.vptr κ 1 0 0))), [κ]⟩ :=
  opok_val hd fun G ρ s a w hrel hr hf => by
    have h1 := ev_rep hx hr hrel
    have h2 : All2 (AtRep G ρ) (a.eval x).cells.toList cs := V1Rep.cells (y := .agg cs) h1
    have hsz : (a.eval x).cells.size = cs.length := by have := h2.length; simpa using this
    refine ⟨.pointer (some ⟨w.heap.size, 0, none⟩), { w with heap := w.heap.push (.cells (a.eval x).cells t) }, G, setX ρ κ (.slice (some ⟨w.heap.size, 0, none⟩) 0 0) fun _ => False, ?_, ?_, ⟨rfl, w.heap.size, 0, 0, setX_same _ _ _ _, rfl⟩⟩
    · simp [execOp, ho, Instr.box, newVar, newRow]
    · rw [← hsz]
      refine hrel.newMem (hf κ (by simp)) _ t _ fun q hq => ?_
      have hql : q < (a.eval x).cells.toList.length := by simpa using hq
      obtain ⟨g1, g2⟩ := lits_vals h2 hl q _ (List.getElem?_eq_getElem hql)
      have g3 : (a.eval x).cells[q]? = some ((a.eval x).cells.toList[q]) := by rw [← Array.getElem?_toList, List.getElem?_eq_getElem hql]
      rw [g3, g1]
      exact ⟨rfl, g1 ▸ g2⟩
/-- A value with a nil slice in it: the slice is given a row of its own. -/
theorem ok_box_hole {t : TypeId} {x : Operand} {cs : List At} {κ κl i sz : Nat} {et : TypeId} (ho : o.op = .box t x) (hd : dstOK C o.dst) (hx : ev g x = some (.v (.agg cs))) (hl : cs.all isLit = true) (hi : i < cs.length) (hz : litsF cs i = .slice none 0 0) (hne : κ ≠ κl) :
    OpOK C o ⟨evr g x, [(.vec κl, some (.r sz et [])), (.vec κ, some (.o (.mem t cs.length (litsF cs) (some i)) [κl]))] ++ wrD o.dst (.v (.one (.vptr κ 1 0 0))), [κ, κl]⟩ :=
  opok_val hd fun G ρ s a w hrel hr hf => by
    have h1 := ev_rep hx hr hrel
    have h2 : All2 (AtRep G ρ) (a.eval x).cells.toList cs := V1Rep.cells (y := .agg cs) h1
    have hsz : (a.eval x).cells.size = cs.length := by have := h2.length; simpa using this
    have hl1 := hrel.newVec (κ := κl) (hf κl (by simp)) (Grew.refl w) (v := .slice none 0 0) (sz := sz) (e := et) (rows := []) ⟨by simp, [], World.ownsRow_nil w 0 et sz, by simp⟩ (by simp [blk])
    have hcell : ∀ q, q < (a.eval x).cells.size → (a.eval x).cells[q]? = some (litsF cs q) ∧ (litsF cs q).oneCell' = true := by
      intro q hq
      have hql : q < (a.eval x).cells.toList.length := by simpa using hq
      obtain ⟨g1, g2⟩ := lits_vals h2 hl q _ (List.getElem?_eq_getElem hql)
      have g3 : (a.eval x).cells[q]? = some ((a.eval x).cells.toList[q]) := by rw [← Array.getElem?_toList, List.getElem?_eq_getElem hql]
      rw [g3, g1]
      exact ⟨rfl, g1 ▸ g2⟩
    refine ⟨.pointer (some ⟨w.heap.size, 0, none⟩), { w with heap := w.heap.push (.cells (a.eval x).cells t) }, G, setX (setAt ρ κl (.slice none 0 0)) κ (.slice (some ⟨w.heap.size, 0, none⟩) 0 0) fun _ => False, ?_, ?_, ⟨rfl, w.heap.size, 0, 0, setX_same _ _ _ _, rfl⟩⟩
    · simp [execOp, ho, Instr.box, newVar, newRow]
    · have hm : ¬ Mentions (upd s (.vec κl) (some (.r sz et []))) κ := by
        rintro (h | ⟨l, c, hc, hk⟩)
        · exact hf κ (by simp) (.inl h)
        · by_cases e : l = .vec κl
          · subst e
            rw [upd_same] at hc
            injection hc with hc
            subst hc
            rcases hk with hk | hk
            · simp [Loc.key] at hk; exact hne hk.symm
            · simp [Cont.keys] at hk
          · rw [upd_ne _ _ e] at hc
            exact hf κ (by simp) (.inr ⟨l, c, hc, hk⟩)
      refine hl1.newTag hm (Grew.push w _) (by intro k hk; simp at hk; rw [hk]; exact hne.symm) ⟨w.heap.size, (a.eval x).cells, rfl, heap_push _ _, hsz, fun q hq _ => hcell q (by omega), fun q hq => ?_⟩ fun b hb => ?_
      · simp only [Option.some.injEq] at hq
        subst hq
        have := hcell i (by omega)
        refine ⟨hi, .slice none 0 0, by rw [this.1, hz], ?_, none, 0, 0, rfl⟩
        simp only [List.map_cons, List.map_nil, setAt_same]
      · simp [blk] at hb; subst hb; simp
end Go.AM
set_option linter.unusedVariables false
set_option linter.unusedSimpArgs false
namespace Go.AM
open Go.RowKit
variable {C : Ctx} {g : State} {o : Oper}

theorem lits_zero {P : Program} {t : TypeId} {i : TInfo} (ht : tinfo P t = some i) : lits i.zero = cellsF (zeroF P t) 0 i.size := by
  obtain ⟨inf, d, z, hs⟩ := tinfo_spec ht
  have hl : i.zero.length = i.size := by rw [← hs.cells, Array.length_toList, hs.zsize]
  apply List.ext_getElem?
  intro q
  by_cases hq : q < i.size
  · rw [cellsF_get _ _ _ _ hq, Nat.zero_add]
    unfold lits
    rw [List.getElem?_map, zeroF_get ht (by omega)]; rfl
  · have h1 : (lits i.zero).length = i.size := by simp [lits, hl]
    rw [List.getElem?_eq_none (by omega), List.getElem?_eq_none (by rw [cellsF_length]; omega)]

theorem zeroOne_all {P : Program} {t : TypeId} {i : TInfo} (ht : tinfo P t = some i) (h : zeroOne P t = true) : i.zero.all (·.oneCell') = true := by
  unfold zeroOne at h; rw [ht] at h; exact h

def put2 (f : Nat → Value) (x y : Value) : Nat → Value := fun q => if q = 0 then x else if q = 1 then y else f q

theorem ok_build_two {t : TypeId} {i : TInfo} {fs : List (Nat × TypeId)} {x z : Operand} {vx vz : Value} (ho : o.op = .build t #[(0, x), (1, z)]) (hd : dstOK C o.dst) (ht : tinfo C.P t = some i) (hk : i.k = .struct fs) (h1 : zeroOne C.P t = true)
    (p0 : i.places[0]? = some (0, 1)) (p1 : i.places[1]? = some (1, 1)) (hs : 2 ≤ i.size) (hx : ev g x = some (.v (.one (.t (.lit vx))))) (hz : ev g z = some (.v (.one (.t (.lit vz))))) :
    OpOK C o ⟨evr g x ++ evr g z, wrD o.dst (.v (.agg (cellsF (put2 (zeroF C.P t) vx vz) 0 i.size))), []⟩ := by
  refine ok_build (g := g) (ys := [(0, .one (.t (.lit vx))), (1, .one (.t (.lit vz)))]) (rd := evr g x ++ evr g z) ho hd ht hk ?_ (zeroOne_all ht h1) ?_
  · simp [parts, hx, hz]
  · rw [lits_zero ht]
    have hl : (cellsF (zeroF C.P t) 0 i.size).length = i.size := cellsF_length _ _ _
    have hl2 : (repl (cellsF (zeroF C.P t) 0 i.size) 0 [At.t (.lit vx)]).length = i.size := by rw [repl_length _ _ _ (by rw [hl]; simp; omega), hl]
    simp only [fillAt, p0, p1, V1.cs, List.length_cons, List.length_nil, hl]
    rw [if_pos ⟨trivial, by omega⟩, if_pos ⟨trivial, by rw [hl2]; omega⟩]
    congr 1
    apply List.ext_getElem?
    intro q
    rw [repl_get _ _ _ (by rw [hl2]; simp; omega), repl_get _ _ _ (by rw [hl]; simp; omega)]
    by_cases hq : q < i.size
    · rw [cellsF_get _ _ _ _ hq, cellsF_get _ _ _ _ hq]
      simp only [Nat.zero_add]
      unfold put2
      by_cases q1 : q = 1
      · subst q1; simp
      · rw [if_neg (by simp only [List.length_cons, List.length_nil]; omega)]
        by_cases q0 : q = 0
        · subst q0; simp
        · rw [if_neg (by simp only [List.length_cons, List.length_nil]; omega), if_neg q0, if_neg q1]
    · rw [if_neg (by simp only [List.length_cons, List.length_nil]; omega), if_neg (by simp only [List.length_cons, List.length_nil]; omega), List.getElem?_eq_none (by rw [cellsF_length]; omega), List.getElem?_eq_none (by rw [cellsF_length]; omega)]

theorem ok_build_zero {t e : TypeId} {i j : TInfo} {n : Nat} (ho : o.op = .build t #[]) (hd : dstOK C o.dst) (ht : tinfo C.P t = some i) (hk : i.k = .array n e) (hj : tinfo C.P e = some j) (h1 : zeroOne C.P t = true) :
    OpOK C o ⟨[], wrD o.dst (.v (.agg (cellsF (zeroF C.P t) 0 i.size))), []⟩ :=
  opok_pure hd fun G ρ s a w hrel hr => by
    obtain ⟨inf, d, z, hs⟩ := tinfo_spec ht
    obtain ⟨inf2, d2, z2, hs2⟩ := tinfo_spec hj
    have hz : z.cells = i.zero.toArray := by rw [← hs.cells]
    have hd' : d = .array n e := by
      have h2 := hs.k
      rw [hk] at h2
      cases d <;> simp [tkOf] at h2
      obtain ⟨rfl, rfl⟩ := h2; rfl
    subst hd'
    refine ⟨.agg z.cells, ?_, ⟨z.cells.toList, by simp, ?_⟩⟩
    · simp [execOp, ho, Instr.build, hs.run_zero, hs.run_und, hs2.run_size, Instr.fill]
    · rw [← lits_zero ht, hs.cells]
      exact lits_rep (by simpa using zeroOne_all ht h1)

/-- A part of a row. -/
theorem ok_part {t e : TypeId} {i j : TInfo} {x : Operand} {lop hip : Option Operand} {κ lo hi : Nat} {e' : TypeId} {rows : List (List T)} {rl rh : List (Loc × Cont)} {kl kh : IntKind} (ho : o.op = .slice t x lop hip none) (hd : dstOK C o.dst) (ht : tinfo C.P t = some i) (hk : i.k = .slice e) (hj : tinfo C.P e = some j)
    (hx : ev g x = some (.v (.one (.row κ))))
    (hlo : (lop = none ∧ lo = 0 ∧ rl = []) ∨ ∃ z yz, lop = some z ∧ ev g z = some yz ∧ litV yz = some (.int kl lo) ∧ rl = evr g z)
    (hhi : (hip = none ∧ hi = rows.length ∧ rh = []) ∨ ∃ z yz, hip = some z ∧ ev g z = some yz ∧ litV yz = some (.int kh hi) ∧ rh = evr g z) (h1 : lo ≤ hi) (h2 : hi ≤ rows.length) (h0 : 0 < rows.length) :
    OpOK C o ⟨evr g x ++ rl ++ rh ++ [(.vec κ, .r j.size e' rows)], wrD o.dst (.v (.one (.part κ j.size lo (hi - lo)))), []⟩ :=
  opok_pure hd fun G ρ s a w hrel hr => by
    obtain ⟨r123, r4⟩ := Reads.app.1 hr
    obtain ⟨r12, r3⟩ := Reads.app.1 r123
    obtain ⟨r1, r2⟩ := Reads.app.1 r12
    have r4 := (Reads.cons.1 r4).1
    obtain ⟨_, e1, _⟩ := ev_rep hx r1 hrel
    obtain ⟨sz', e'', rows', g1, g2⟩ := hrel.vecr r4
    injection g1 with g1 g1' g1''
    subst g1; subst g1'; subst g1''
    obtain ⟨_, xs, hown, _⟩ := g2
    rcases hown.2 with ⟨_, hn⟩ | ⟨b, c, cur, f1, _, f2, f3, _⟩
    · omega
    have hlo' : (lop.map a.eval = none ∧ lo = 0) ∨ lop.map a.eval = some (.int kl lo) := by
      rcases hlo with ⟨rfl, h, _⟩ | ⟨z, yz, rfl, hz, hvz, rfl⟩
      · exact .inl ⟨rfl, h⟩
      · exact .inr (by simp [(litV_rep hvz (ev_rep hz r2 hrel)).1])
    have hhi' : (hip.map a.eval = none ∧ hi = rows.length) ∨ hip.map a.eval = some (.int kh hi) := by
      rcases hhi with ⟨rfl, h, _⟩ | ⟨z, yz, rfl, hz, hvz, rfl⟩
      · exact .inl ⟨rfl, h⟩
      · exact .inr (by simp [(litV_rep hvz (ev_rep hz r3 hrel)).1])
    have hrun := run_slice_plain (P := C.P) ht hk hj (some ⟨b, 0, none⟩) rows.length c lo hi kl kh _ _ hlo' hhi' h1 h2 f3 w
    rw [f1] at e1
    refine ⟨.slice (if c = lo then some ⟨b, 0, none⟩ else (some (⟨b, 0, none⟩ : Addr)).map (·.add (lo * j.size))) (hi - lo) (c - lo), by simp [execOp, ho, e1, hrun], ?_⟩
    by_cases hc : c = lo
    · rw [if_pos hc]
      exact ⟨rfl, b, rows.length, c, f1, by omega, _, _, rfl, by omega, .inl (by omega)⟩
    · rw [if_neg hc]
      refine ⟨rfl, b, rows.length, c, f1, by omega, _, _, rfl, by omega, .inr ?_⟩
      show (⟨b, 0, none⟩ : Addr).add (lo * j.size) = _
      rw [Addr.add_lit, Nat.zero_add]
end Go.AM
set_option linter.unusedVariables false
set_option linter.unusedSimpArgs false
namespace Go.AM
open Go.RowKit
variable {C : Ctx} {g : State} {o : Oper}

/-! ### M9. A map is ranged over -/
theorem run_range' {P : Program} {w : World} {t k e : TypeId} {r clk : Nat} {es : Array MapEntry} (ht : P.underlying t = some (.map k e)) (hb : w.heap[r]? = some (.map es clk)) :
    (Instr.range t (.map (some r))).run P w = .ok (.pointer (some ⟨w.heap.size, 0, none⟩)) { w with heap := w.heap.push (.mapIter (some r) clk #[] clk) } := run_range_map w t k e r es clk ht hb

theorem ok_range {t k e : TypeId} {i : TInfo} {x : Operand} {κ κi : Nat} {e' eb : TypeId} {Q : QF} {B : Int → Int → Option Nat} {clk : Nat} {cur : Int × Int} (ho : o.op = .range t x) (hd : dstOK C o.dst) (ht : tinfo C.P t = some i) (hk : i.k = .map k e)
    (hx : ev g x = some (.v (.one (.obj κ)))) (hne : κ ≠ κi) : OpOK C o ⟨evr g x ++ [(.vec κ, .o (.qsB e' eb Q B clk) [])], [(.vec κi, some (.o (.iter clk [] cur) [κ]))] ++ wrD o.dst (.v (.one (.vptr κi 1 0 0))), [κi]⟩ :=
  opok_val hd fun G ρ s a w hrel hr hf => by
    obtain ⟨r1, r2⟩ := Reads.app.1 hr
    have r2 := (Reads.cons.1 r2).1
    have e1 := obj_eval (ev_rep hx r1 hrel)
    obtain ⟨r, M, Y, es, f, f1, f2, f3⟩ := hrel.vec κ _ r2
    have hrun := run_range' (P := C.P) (und_map ht hk) f1
    refine ⟨.pointer (some ⟨w.heap.size, 0, none⟩), { w with heap := w.heap.push (.mapIter (some r) clk #[] clk) }, G, setX ρ κi (.slice (some ⟨w.heap.size, 0, none⟩) 0 0) fun _ => False, ?_, ?_, ⟨rfl, w.heap.size, 0, 0, setX_same _ _ _ _, rfl⟩⟩
    · simp only [execOp, ho, e1, f.isM, Sem.run_bind, hrun, Result.andThen_ok, Sem.run_pure]
    · refine hrel.newTag (hf κi (by simp)) (Grew.push w _) (by intro k' hk'; simp at hk'; rw [hk']; exact hne) ⟨w.heap.size, r, rfl, ?_, heap_push _ _⟩ fun b hb => ?_
      · simp only [List.map_cons, List.map_nil]; rw [f.isM]
      · simp [blk] at hb; subst hb; simp

/-- The entry at which an iterator stands. -/
theorem ok_entry {x : Operand} {κ κi : Nat} {e' eb : TypeId} {Q : QF} {B : Int → Int → Option Nat} {clk n : Nat} {seen : List Nat} {c d : Int} (ho : o.op = .entry x) (hd : dstOK C o.dst)
    (hx : ev g x = some (.v (.one (.vptr κi 1 0 0)))) (hn : seen.getLast? = some n) (hB : B c d = some n) :
    OpOK C o ⟨evr g x ++ [(.vec κi, .o (.iter clk seen (c, d)) [κ]), (.vec κ, .o (.qsB e' eb Q B clk) [])], wrD o.dst (.tup [.agg [.t (.lit (.int .i64 c)), .t (.lit (.int .i64 d))], .one (.slen (Q c d).length)]), []⟩ :=
  opok_pure hd fun G ρ s a w hrel hr => by
    obtain ⟨r1, r2⟩ := Reads.app.1 hr
    obtain ⟨q1, r2⟩ := Reads.cons.1 r2
    obtain ⟨q2, _⟩ := Reads.cons.1 r2
    simp only at q1 q2
    obtain ⟨_, b, n', c', e1, e2⟩ := ev_rep hx r1 hrel
    obtain ⟨b2, r, g1, g2, g3⟩ := hrel.vec κi _ q1
    obtain ⟨r', M, Y, es, f, f1, f2, f3⟩ := hrel.vec κ _ q2
    rw [g1] at e1
    simp at e1
    obtain ⟨rfl, rfl, rfl⟩ := e1
    simp only [List.map_cons, List.map_nil, List.cons.injEq, and_true] at g2
    rw [f.isM] at g2
    simp at g2
    subst g2
    have hM := f3 c d
    rw [hB] at hM
    simp only [Option.map_eq_some_iff] at hM
    obtain ⟨⟨val, nb⟩, hM, rfl⟩ := hM
    obtain ⟨en, h1, h2⟩ := f2.all c d _ hM
    obtain ⟨c2, d2, h3, h4⟩ := f2.key en h1
    rw [h2, pairV_inj] at h3
    obtain ⟨rfl, rfl⟩ := h3
    rw [hM] at h4
    simp only [Option.some.injEq, Prod.mk.injEq] at h4
    obtain ⟨h5, h6⟩ := h4
    have hnd : (es.toList.map (·.born)).Nodup := List.pairwise_map.2 f2.bnodup
    have hfind : es.find? (fun x => x.born == nb) = some en := by
      rw [← Array.find?_toList]
      have := find_born en es.toList hnd h1
      rw [h6]; exact this
    have hs := f.slot c d
    have hsl : ∃ A k, valOf M c d = .slice A (Q c d).length k := NestAt.slice hs
    obtain ⟨A, k, hsl⟩ := hsl
    have hval : val = .slice A (Q c d).length k := by rw [← hsl]; simp [valOf, hM]
    refine ⟨.tuple #[en.key, en.val], ?_, ⟨[en.key, en.val], rfl, .cons ?_ (.cons ?_ .nil)⟩⟩
    · have hback : seen.toArray.back? = some nb := by rw [List.back?_toArray]; exact hn
      have e3 : a.eval x = .pointer (some ⟨b2, 0, none⟩) := by simpa using e2
      simp [execOp, ho, e3, Instr.entry, getObj, Sem.run, g3, f1, hback, hfind]
    · rw [h2]
      exact ⟨[.int .i64 c, .int .i64 d], rfl, .cons ⟨rfl, .lit _⟩ (.cons ⟨rfl, .lit _⟩ .nil)⟩
    · rw [← h5, hval]
      exact ⟨rfl, A, k, rfl⟩

def updB (B : Int → Int → Option Nat) (x y : Int) : Int → Int → Option Nat := fun c d => if c = x ∧ d = y then none else B c d

theorem run_delete' {P : Program} {w : World} {mt kt et : TypeId} {r clk : Nat} {M : MapM} {es : Array MapEntry} {a b : Int} (ht : P.underlying mt = some (.map kt et)) (hk : PairT P kt) (hb : w.heap[r]? = some (.map es clk)) (hE : MapE es.toList clk M) (t2 ty : TypeId) :
    ∃ es' : Array MapEntry, (Builtin.delete_ #[mt, t2] ty #[.map (some r), pairV a b]).run P w = .ok (.tuple #[]) (setMap w r (.map es' clk)) ∧ MapE es'.toList clk (updM M a b none) := by
  rcases hE.find hk w a b with ⟨h1, h2, h3⟩ | ⟨j, en, h1, h2, h3, h4⟩
  · refine ⟨es, ?_, ?_⟩
    · simp [Builtin.delete_, run_underlying ht, run_getMap hb, hk.check, h2, run_setMap _ hb]
    · have e : updM M a b none = M := by
        funext c d
        by_cases hcd : c = a ∧ d = b
        · obtain ⟨rfl, rfl⟩ := hcd; rw [updM_same, h1]
        · exact updM_ne _ _ hcd
      rw [e]; exact hE
  · have hj : j < es.size := by have := (List.getElem?_eq_some_iff.1 h3).1; simpa using this
    refine ⟨es.eraseIdxIfInBounds j, ?_, ?_⟩
    · simp [Builtin.delete_, run_underlying ht, run_getMap hb, hk.check, h2, run_setMap _ hb]
    · have := hE.erase h3 h4
      have e : (es.eraseIdxIfInBounds j).toList = es.toList.eraseIdx j := by
        simp [Array.eraseIdxIfInBounds, hj, Array.toList_eraseIdx]
      rw [e]; exact this

theorem ok_delB {t u k e : TypeId} {i : TInfo} {m z : Operand} {κ : Nat} {e' eb : TypeId} {Q : QF} {B : Int → Int → Option Nat} {clk : Nat} {x y : Int} (ho : o.op = .call { callee := .builtin .delete, args := #[m, z], argTypes := #[t, u] }) (hd : dstOK C o.dst) (ht : tinfo C.P t = some i) (hk : i.k = .map k e) (hp : pairT C.P k = true)
    (hm : ev g m = some (.v (.one (.obj κ)))) (hx : ev g z = some (pairC x y)) :
    OpOK C o ⟨evr g m ++ evr g z ++ [(.vec κ, .o (.qsB e' eb Q B clk) [])], [(.vec κ, some (.o (.qsB e' eb (updQ Q x y []) (updB B x y) clk) []))] ++ wrD o.dst (.tup []), []⟩ :=
  opok_val hd fun G ρ s a w hrel hr hf => by
    obtain ⟨r12, r3⟩ := Reads.app.1 hr
    obtain ⟨r1, r2⟩ := Reads.app.1 r12
    have r3 := (Reads.cons.1 r3).1
    have e1 := obj_eval (ev_rep hm r1 hrel)
    have e2 := pair_eval (ev_rep hx r2 hrel)
    obtain ⟨r, M, Y, es, f, f1, f2, f3⟩ := hrel.vec κ _ r3
    obtain ⟨es', hrun, hE⟩ := run_delete' (P := C.P) (und_map ht hk) (pairT_spec hp) f1 f2 u o.type (a := x) (b := y)
    have hM : MapIs (setMap w r (.map es' clk)) r (updM M x y none) := ⟨es', clk, setMap_same f1, hE⟩
    refine ⟨.tuple #[], setMap w r (.map es' clk), G, ρ, run_delB ho _ _ (by rw [e1, e2, f.isM, hrun]), ?_, ⟨[], rfl, .nil⟩⟩
    refine hrel.retag r3 (w' := setMap w r (.map es' clk)) rfl rfl rfl (setMap_size _ _ _) (fun b hb => setMap_heap f.inX hb) (fun _ _ => rfl) (fun _ _ => rfl) ?_
    refine ⟨r, _, fun c d => if c = x ∧ d = y then fun _ => False else Y c d, es', ⟨f.isM, f.inX, hM, ?_, ?_, ?_⟩, setMap_same f1, hE, ?_⟩
    · intro c d n hn
      split at hn
      · exact hn.elim
      · exact f.sub c d n hn
    · intro c d c' d' n hn hn'
      split at hn
      · exact hn.elim
      · split at hn'
        · exact hn'.elim
        · exact f.apart c d c' d' n hn hn'
    · intro c d
      have hq : QHole.none.at c d = .own := rfl
      rw [hq]
      by_cases hcd : c = x ∧ d = y
      · obtain ⟨rfl, rfl⟩ := hcd
        simp only [and_self, if_true]
        show NestAt _ _ _ _ none _ _ []
        rw [valOf_upd_none]
        simp only [updQ, and_self, if_true]
        exact ⟨[], World.ownsRow_nil _ 0 e' 1, by simp [blk], by simp, by simp, by simp, by simp⟩
      · simp only [if_neg hcd]
        have := f.slots (.map es' clk) c d
        rw [hq] at this
        have e3 : updQ Q x y [] c d = Q c d := by simp [updQ, hcd]
        rw [e3]
        exact SlotAt.upd_ne (k := .own) this hcd
    · intro c d
      unfold updB
      by_cases hcd : c = x ∧ d = y
      · obtain ⟨rfl, rfl⟩ := hcd; rw [updM_same]; simp
      · rw [updM_ne _ _ hcd, if_neg hcd]; exact f3 c d

/-- The step: nothing is left, or an entry comes that was not seen. -/
theorem run_next' {P : Program} {w : World} {bi bm clk ty : Nat} {seen : Array Nat} {es : Array MapEntry} (h1 : w.heap[bi]? = some (.mapIter (some bm) clk seen clk)) (h2 : w.heap[bm]? = some (.map es clk)) (hold : ∀ x ∈ es.toList, x.born < clk) :
    ((∀ x ∈ es.toList, x.born ∈ seen) ∧ (Instr.next (.pointer (some ⟨bi, 0, none⟩)) false ty).run P w = .ok (.tuple #[.bool false]) w) ∨
    ∃ en ∈ es.toList, en.born ∉ seen ∧ ∃ n, (Instr.next (.pointer (some ⟨bi, 0, none⟩)) false ty).run P w = .ok (.tuple #[.bool true, en.key, en.val]) (setMap { w with drawn := n } bi (.mapIter (some bm) clk (seen.push en.born) clk)) := by
  simp only [Instr.next, getObj, Sem.run_bind, Sem.run, h1, h2, Result.andThen, next_test_false seen es clk clk hold (Nat.le_refl _), Bool.false_eq_true, if_false]
  have hmem : ∀ x ∈ (Array.filter (fun e => !seen.contains e.born) es).toList, x.born < clk ∧ x ∈ es.toList ∧ x.born ∉ seen := fun x hx => by
    have : x ∈ es ∧ x.born ∉ seen := by simpa using hx
    exact ⟨hold x (by simpa using this.1), by simpa using this.1, this.2⟩
  have hall : (Array.filter (fun e => !seen.contains e.born) es).size = 0 → ∀ x ∈ es.toList, x.born ∈ seen := by
    intro h0 x hx
    have h3 : Array.filter (fun e => !seen.contains e.born) es = #[] := Array.eq_empty_of_size_eq_zero h0
    rw [Array.filter_eq_empty_iff] at h3
    have := h3 x (by simpa using hx)
    simpa using this
  generalize Array.filter (fun e => !seen.contains e.born) es = L at hmem hall ⊢
  have e1 : L.filter (fun x => decide (x.born < clk)) = L := Array.filter_eq_self.2 (fun x hx => by simpa using (hmem x (by simpa using hx)).1)
  have e2 : L.filter (fun x => decide (x.born ≥ clk)) = #[] := by
    rw [Array.filter_eq_empty_iff]
    intro x hx
    have := (hmem x (by simpa using hx)).1
    simp
    omega
  simp only [e1, e2, Array.append_empty]
  by_cases h0 : L.size = 0
  · left
    refine ⟨hall h0, ?_⟩
    have : L = #[] := Array.eq_empty_of_size_eq_zero h0
    subst this
    simp [choose, Sem.run, Question.forced]
  · right
    have hne : L.isEmpty = false := by simp [Array.isEmpty, h0]
    simp only [hne, Bool.false_eq_true, if_false, Array.empty_append, Array.size_map]
    have hch : ∃ (j n : Nat), j < L.size ∧ (choose (Question.mapNext L.size)).run P w = .ok j { w with drawn := n } := by
      by_cases hf : L.size ≤ 1
      · exact ⟨0, w.drawn, by omega, by simp [choose, Sem.run, Question.forced, hf]⟩
      · exact ⟨_, w.drawn + 1, Nat.mod_lt _ (by omega), by
          simp only [choose, Sem.run, Question.forced, decide_eq_true_eq, hf, if_false, Question.cut]
          rfl⟩
    obtain ⟨j, n, hj, hrun⟩ := hch
    have hmj := hmem L[j] (by simp)
    refine ⟨L[j], hmj.2.1, hmj.2.2, n, ?_⟩
    have hset : ∀ o', (setObj bi o').run P { w with drawn := n } = .ok () (setMap { w with drawn := n } bi o') := fun o' => by
      simp [setObj, Sem.run, h1, setMap]
    simp only [hrun, Array.getElem?_map, Array.getElem?_eq_getElem hj, Option.map_some, Sem.run_bind, hset, Result.andThen]
    rfl
end Go.AM
