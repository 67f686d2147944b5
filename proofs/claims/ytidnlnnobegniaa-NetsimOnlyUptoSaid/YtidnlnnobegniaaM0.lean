import Derived.Test.YtidnlnnobegniaaA10b
import Derived.MapKept
import Derived.WideKeyRuns
set_option linter.unusedVariables false
set_option linter.unusedSimpArgs false
namespace Go.AM
open Go.RowKit

/-! ### M0. Maps by pairs of numbers, in a world -/
def pairT (P : Program) (k : TypeId) : Bool :=
  match tinfo P k with
  | some i => match i.k with
    | .struct fs => i.eqok && fieldsPlain 0 fs && kindsOK P fs [.int .i64 0, .int .i64 0]
    | _ => false
  | none => false

structure PairT (P : Program) (k : TypeId) : Prop where
  eq : ∀ w a b c d, (Op.equal k (pairV a b) (pairV c d)).run P w = .ok (decide (a = c ∧ b = d)) w
  check : ∀ w em a b, (Instr.checkKey em 10000 k (pairV a b)).run P w = .ok () w
  find : ∀ w x es, (Instr.findKey k x es).run P w = (Instr.findAsking k x es).run P w

theorem kinds_pair {P : Program} {fs : List (Nat × TypeId)} (h : kindsOK P fs [.int .i64 0, .int .i64 0] = true) (a b : Int) : kindsOK P fs [.int .i64 a, .int .i64 b] = true := by
  match fs, h with
  | [], h => simp [kindsOK] at h
  | [_], h => simp [kindsOK] at h
  | [(o1, t1), (o2, t2)], h =>
    simp only [kindsOK, Bool.and_eq_true] at h ⊢
    refine ⟨?_, ?_, trivial⟩
    · have h1 := h.1
      split at h1
      · rename_i j hj
        simp only [Bool.and_eq_true] at h1 ⊢
        refine ⟨h1.1, ?_⟩
        have h2 := h1.2
        cases hk : j.k <;> rw [hk] at h2 <;> simp_all
      · simp at h1
    · have h1 := h.2.1
      split at h1
      · rename_i j hj
        simp only [Bool.and_eq_true] at h1 ⊢
        refine ⟨h1.1, ?_⟩
        have h2 := h1.2
        cases hk : j.k <;> rw [hk] at h2 <;> simp_all
      · simp at h1
  | _ :: _ :: _ :: _, h => simp [kindsOK] at h

theorem pairT_spec {P : Program} {k : TypeId} (h : pairT P k = true) : PairT P k := by
  unfold pairT at h
  split at h
  case h_2 => simp at h
  rename_i i hi
  split at h
  case h_2 => simp at h
  rename_i fs hk
  simp only [Bool.and_eq_true] at h
  obtain ⟨⟨hq, hp⟩, hkk⟩ := h
  obtain ⟨inf, d, zz, hs⟩ := tinfo_spec hi
  have hkd := hs.k
  rw [hk] at hkd
  have hqd := hs.eqok
  rw [hq] at hqd
  cases d <;> simp only [tkOf, TK.struct.injEq, reduceCtorEq] at hkd
  rename_i fsA
  subst hkd
  simp only [eqokOf, Bool.and_eq_true, Bool.not_eq_true', Array.all_eq_true', bne_iff_ne, ne_eq] at hqd
  obtain ⟨⟨hnm, hsi⟩, hgt⟩ := hqd
  have hfo : P.fieldsOf k = fsA := by simp [Program.fieldsOf, hs.und]
  have hund : P.underlying k = some (.struct (P.fieldsOf k)) := by rw [hfo]; exact hs.und
  obtain ⟨l1, a1, _⟩ := kindsOK_spec hkk
  refine ⟨fun w a b c d => ?_, fun w em a b => ?_, fun w x es => ?_⟩
  · obtain ⟨_, _, b1⟩ := kindsOK_spec (kinds_pair hkk a b)
    obtain ⟨_, _, b2⟩ := kindsOK_spec (kinds_pair hkk c d)
    show (Op.equalIn 10000 k _ _).run P w = _
    unfold pairV
    rw [run_equalIn_agg w 9999 k _ _ hund hsi, hfo]
    refine run_eqFields 9998 w fsA.toList 0 _ _ _ (fun f hf => hnm f (by simpa using hf)) hp ?_ ?_ ?_ ?_ ?_
    · intro f hf; exact a1 (f.offset, f.type) (List.mem_map.2 ⟨f, hf, rfl⟩)
    · simpa using l1
    · simpa using l1
    · simp only [List.drop_zero, eqAll, List.zip_cons_cons, List.zip_nil_left, if_true, Option.map_some, Option.some.injEq]
      by_cases h1 : a = c <;> by_cases h2 : b = d <;> simp [h1, h2]
    · intro i f v hf hv j hj
      have hfm : (fsA.toList.map fun f => (f.offset, f.type))[i]? = some (f.offset, f.type) := by rw [List.getElem?_map, hf]; rfl
      rcases hv with hv | hv
      · exact b1 i _ v hfm (by simpa using hv) j hj
      · exact b2 i _ v hfm (by simpa using hv) j hj
  · obtain ⟨_, _, b1⟩ := kindsOK_spec (kinds_pair hkk a b)
    have hlen : fsA.toList.length = 2 := by simpa using l1.symm
    unfold pairV
    rw [show (10000 : Nat) = 9999 + 1 from rfl, Instr.checkKey]
    simp only [Sem.run_bind, run_underlying hs.und, Result.andThen_ok]
    rw [← Array.forIn_toList]
    have each : ∀ f, f ∈ fsA.toList → f.name ≠ "_" ∧ ∃ v, (part f.type #[.int .i64 a, .int .i64 b] f.offset).run P w = .ok v w ∧ (Instr.checkKey em 9999 f.type v).run P w = .ok () w := by
      intro f hf
      refine ⟨hnm f (by simpa using hf), ?_⟩
      obtain ⟨ix, hix, hfe⟩ := List.mem_iff_getElem.1 hf
      have hix2 : ix < 2 := by omega
      have hoff : f.offset = ix := by
        match hL : fsA.toList, hlen with
        | [f1, f2], _ =>
          rw [hL] at hp
          simp only [List.map_cons, List.map_nil, fieldsPlain, Bool.and_eq_true, beq_iff_eq] at hp
          simp only [hL] at hfe
          match ix, hix2 with
          | 0, _ => simp at hfe; rw [← hfe]; exact hp.1
          | 1, _ => simp at hfe; rw [← hfe]; simpa using hp.2.1
      obtain ⟨j, hj, hjk, hja⟩ := a1 (f.offset, f.type) (List.mem_map.2 ⟨f, hf, rfl⟩)
      obtain ⟨_, dd, _, hsj⟩ := tinfo_spec hj
      have hv : ∃ v, (#[Value.int .i64 a, .int .i64 b] : Array Value)[ix]? = some v := by
        match ix, hix2 with
        | 0, _ => exact ⟨_, rfl⟩
        | 1, _ => exact ⟨_, rfl⟩
      obtain ⟨v, hv⟩ := hv
      have hpx : (part f.type #[.int .i64 a, .int .i64 b] f.offset).run P w = .ok v w := by
        simp only [part, Sem.run_bind, hsj.run_agg, hja, Result.andThen_ok, Bool.false_eq_true, if_false, hoff, hv, Sem.run_pure]
      refine ⟨v, hpx, ?_⟩
      have hd := hsj.k
      rw [show (9999 : Nat) = 9998 + 1 from rfl, Instr.checkKey]
      simp only [Sem.run_bind, run_underlying hsj.und, Result.andThen_ok]
      rcases hjk with ⟨q, hjk⟩ | hjk
      · rw [hjk] at hd
        cases dd <;> simp [tkOf] at hd
        simp
      · rw [hjk] at hd
        cases dd <;> simp [tkOf] at hd
        simp
    generalize fsA.toList = L at each
    clear hlen
    induction L with
    | nil => simp
    | cons f L ih =>
      obtain ⟨hn, v, p1, p2⟩ := each f (by simp)
      simp only [List.forIn_cons, Sem.run_bind, hn, ne_eq, not_false_eq_true, if_true, Result.andThen_ok, p1, p2, Sem.run_pure]
      exact ih fun y hy => each y (by simp [hy])
  · exact run_findKey_eq w (by rw [hs.und]) x es

theorem same_pair (a b : Int) : Instr.sameBits 10000 (pairV a b) (pairV a b) = true := by
  show Instr.sameBits (9999 + 1) _ _ = true
  simp [Instr.sameBits, pairV]

theorem run_stays (P : Program) (w : World) (a b : Int) : (Instr.keyThatStays (pairV a b) (pairV a b)).run P w = .ok (pairV a b) w := by
  simp [Instr.keyThatStays, same_pair]

/-- Looking for a pair in a list of entries. -/
theorem run_find {P : Program} {k : TypeId} (hk : PairT P k) (w : World) (a b : Int) : ∀ (es : List MapEntry) (i : Nat), (∀ en, en ∈ es → ∃ c d, en.key = pairV c d) →
    ((Instr.findAsking k (pairV a b) es i).run P w = .ok none w ∧ ∀ en, en ∈ es → en.key ≠ pairV a b) ∨
    ∃ j en, (Instr.findAsking k (pairV a b) es i).run P w = .ok (some (i + j, en.val)) w ∧ es[j]? = some en ∧ en.key = pairV a b
  | [], i, _ => .inl ⟨by simp [Instr.findAsking], by simp⟩
  | e :: es, i, h => by
    obtain ⟨c, d, hcd⟩ := h e (by simp)
    have he := hk.eq w a b c d
    rw [← hcd] at he
    by_cases hab : a = c ∧ b = d
    · refine .inr ⟨0, e, ?_, rfl, by rw [hcd, hab.1, hab.2]⟩
      rw [decide_eq_true hab] at he
      simp [Instr.findAsking, he]
    · rw [decide_eq_false hab] at he
      rcases run_find hk w a b es (i + 1) (fun en hen => h en (by simp [hen])) with ⟨h1, h2⟩ | ⟨j, en, h1, h2, h3⟩
      · refine .inl ⟨by simp [Instr.findAsking, he, h1], fun en hen => ?_⟩
        rcases List.mem_cons.1 hen with rfl | hen
        · rw [hcd]; intro e2; rw [pairV_inj] at e2; exact hab ⟨e2.1.symm, e2.2.symm⟩
        · exact h2 en hen
      · refine .inr ⟨j + 1, en, ?_, by simpa using h2, h3⟩
        simp [Instr.findAsking, he, h1]
        omega

variable {P : Program} {w : World} {r : Nat} {M : MapM} {mt kt et : TypeId} {a b : Int}

/-- What is found. -/
theorem MapE.find {es : List MapEntry} {clock : Nat} (hM : MapE es clock M) {k : TypeId} (hk : PairT P k) (w : World) (a b : Int) :
    (M a b = none ∧ (Instr.findKey k (pairV a b) es).run P w = .ok none w ∧ ∀ en, en ∈ es → en.key ≠ pairV a b) ∨
    ∃ j en, M a b = some (en.val, en.born) ∧ (Instr.findKey k (pairV a b) es).run P w = .ok (some (j, en.val)) w ∧ es[j]? = some en ∧ en.key = pairV a b := by
  rw [hk.find]
  rcases run_find hk w a b es 0 (fun en hen => let ⟨c, d, h, _⟩ := hM.key en hen; ⟨c, d, h⟩) with ⟨h1, h2⟩ | ⟨j, en, h1, h2, h3⟩
  · refine .inl ⟨?_, h1, h2⟩
    cases hm : M a b with
    | none => rfl
    | some x =>
      obtain ⟨en, h3, h4⟩ := hM.all a b x hm
      exact absurd h4 (h2 en h3)
  · obtain ⟨c, d, h4, h5⟩ := hM.key en (List.mem_of_getElem? h2)
    rw [h3, pairV_inj] at h4
    obtain ⟨rfl, rfl⟩ := h4
    exact .inr ⟨j, en, h5, by simpa using h1, h2, h3⟩

def updM (M : MapM) (a b : Int) (x : Option (Value × Nat)) : MapM := fun c d => if c = a ∧ d = b then x else M c d
theorem updM_same (M : MapM) (a b : Int) (x : Option (Value × Nat)) : updM M a b x a b = x := by simp [updM]
theorem updM_ne (M : MapM) {a b c d : Int} (x : Option (Value × Nat)) (h : ¬ (c = a ∧ d = b)) : updM M a b x c d = M c d := by simp [updM, h]

/-- One entry is changed. -/
theorem MapE.set {es : List MapEntry} {clock : Nat} (hM : MapE es clock M) {j : Nat} {en : MapEntry} (hj : es[j]? = some en) (hkey : en.key = pairV a b) (v : Value) :
    MapE (es.set j { key := pairV a b, val := v, born := en.born }) clock (updM M a b (some (v, en.born))) := by
  have hjl : j < es.length := (List.getElem?_eq_some_iff.1 hj).1
  have hje : es[j] = en := (List.getElem?_eq_some_iff.1 hj).2
  have hks : (es.set j { key := pairV a b, val := v, born := en.born }).map (·.key) = es.map (·.key) := by
    rw [List.map_set]
    apply List.ext_getElem?
    intro i
    rw [List.getElem?_set]
    split
    · rename_i e; subst e; simp [hje, hkey, hjl]
    · rfl
  have hbs : (es.set j { key := pairV a b, val := v, born := en.born }).map (·.born) = es.map (·.born) := by
    rw [List.map_set]
    apply List.ext_getElem?
    intro i
    rw [List.getElem?_set]
    split
    · rename_i e; subst e; simp [hje, hjl]
    · rfl
  have hnd := hM.nodup
  have hbd := hM.bnodup
  refine ⟨?_, ?_, ?_, ?_, ?_⟩
  · intro x hx
    obtain ⟨i, hi, hxe⟩ := List.mem_iff_getElem.1 hx
    rw [List.getElem_set] at hxe
    split at hxe
    · subst hxe; exact ⟨a, b, rfl, updM_same _ _ _ _⟩
    · rename_i hne
      have hi' : i < es.length := by simpa using hi
      obtain ⟨c, d, h1, h2⟩ := hM.key es[i] (List.getElem_mem hi')
      subst hxe
      refine ⟨c, d, h1, ?_⟩
      rw [updM_ne]
      · exact h2
      · rintro ⟨rfl, rfl⟩
        have hkk : (es[i]).key = (es[j]).key := by rw [h1, hje, hkey]
        rcases Nat.lt_or_gt_of_ne hne with hlt | hlt
        · exact (List.pairwise_iff_getElem.1 hnd j i hjl hi' hlt) hkk.symm
        · exact (List.pairwise_iff_getElem.1 hnd i j hi' hjl hlt) hkk
  · intro c d x hx
    have hmem : ∀ K, K ∈ es.map (·.key) → ∃ en', en' ∈ es.set j { key := pairV a b, val := v, born := en.born } ∧ en'.key = K := by
      intro K hK
      rw [← hks] at hK
      obtain ⟨en', h1, h2⟩ := List.mem_map.1 hK
      exact ⟨en', h1, h2⟩
    by_cases hcd : c = a ∧ d = b
    · obtain ⟨rfl, rfl⟩ := hcd
      exact hmem _ (List.mem_map.2 ⟨en, List.mem_of_getElem? hj, hkey⟩)
    · rw [updM_ne _ _ hcd] at hx
      obtain ⟨en', h1, h2⟩ := hM.all c d x hx
      exact hmem _ (List.mem_map.2 ⟨en', h1, h2⟩)
  · have := (List.pairwise_map (f := fun e : MapEntry => e.key) (R := fun x y => x ≠ y) (l := es)).2 hnd
    rw [← hks] at this
    exact List.pairwise_map.1 this
  · intro x hx
    have : x.born ∈ es.map (·.born) := by rw [← hbs]; exact List.mem_map.2 ⟨x, hx, rfl⟩
    obtain ⟨y, h1, h2⟩ := List.mem_map.1 this
    rw [← h2]; exact hM.born y h1
  · have := (List.pairwise_map (f := fun e : MapEntry => e.born) (R := fun x y => x ≠ y) (l := es)).2 hbd
    rw [← hbs] at this
    exact List.pairwise_map.1 this

/-- One entry comes. -/
theorem MapE.push {es : List MapEntry} {clock : Nat} (hM : MapE es clock M) (hno : ∀ en, en ∈ es → en.key ≠ pairV a b) (v : Value) :
    MapE (es ++ [{ key := pairV a b, val := v, born := clock }]) (clock + 1) (updM M a b (some (v, clock))) := by
  refine ⟨?_, ?_, ?_, ?_, ?_⟩
  · intro x hx
    rcases List.mem_append.1 hx with hx' | hx'
    · obtain ⟨c, d, h1, h2⟩ := hM.key x hx'
      refine ⟨c, d, h1, ?_⟩
      rw [updM_ne]
      · exact h2
      · rintro ⟨rfl, rfl⟩; exact hno x hx' h1
    · simp at hx'; subst hx'; exact ⟨a, b, rfl, updM_same _ _ _ _⟩
  · intro c d x hx
    by_cases hcd : c = a ∧ d = b
    · obtain ⟨rfl, rfl⟩ := hcd
      exact ⟨⟨pairV c d, v, clock⟩, List.mem_append_right _ (List.mem_singleton.2 rfl), rfl⟩
    · rw [updM_ne _ _ hcd] at hx
      obtain ⟨en', h1, h2⟩ := hM.all c d x hx
      exact ⟨en', List.mem_append_left _ h1, h2⟩
  · refine List.pairwise_append.2 ⟨hM.nodup, by simp, fun x hx y hy => ?_⟩
    simp at hy; subst hy; exact hno x hx
  · intro x hx
    rcases List.mem_append.1 hx with hx | hx
    · have := hM.born x hx; omega
    · simp at hx; subst hx; simp
  · refine List.pairwise_append.2 ⟨hM.bnodup, by simp, fun x hx y hy => ?_⟩
    simp at hy; subst hy
    have := hM.born x hx
    simp; omega

/-- One entry goes. -/
theorem MapE.erase {es : List MapEntry} {clock : Nat} (hM : MapE es clock M) {j : Nat} {en : MapEntry} (hj : es[j]? = some en) (hkey : en.key = pairV a b) :
    MapE (es.eraseIdx j) clock (updM M a b none) := by
  have hjl : j < es.length := (List.getElem?_eq_some_iff.1 hj).1
  have hje : es[j] = en := (List.getElem?_eq_some_iff.1 hj).2
  have hsub := List.eraseIdx_sublist es j
  have hmem : ∀ x, x ∈ es.eraseIdx j → x.key ≠ pairV a b := by
    intro x hx
    obtain ⟨i, hne, hi, hxe⟩ := List.mem_eraseIdx_iff_getElem.1 hx
    intro hk
    have hkk : (es[i]).key = (es[j]).key := by rw [hxe, hk, hje, hkey]
    rcases Nat.lt_or_gt_of_ne hi with hlt | hlt
    · exact (List.pairwise_iff_getElem.1 hM.nodup i j hne hjl hlt) hkk
    · exact (List.pairwise_iff_getElem.1 hM.nodup j i hjl hne hlt) hkk.symm
  refine ⟨?_, ?_, hM.nodup.sublist hsub, fun x hx => hM.born x (hsub.subset hx), hM.bnodup.sublist hsub⟩
  · intro x hx
    obtain ⟨c, d, h1, h2⟩ := hM.key x (hsub.subset hx)
    refine ⟨c, d, h1, ?_⟩
    rw [updM_ne]
    · exact h2
    · rintro ⟨rfl, rfl⟩; exact hmem x hx h1
  · intro c d x hx
    by_cases hcd : c = a ∧ d = b
    · obtain ⟨rfl, rfl⟩ := hcd
      rw [updM_same] at hx; simp at hx
    · rw [updM_ne _ _ hcd] at hx
      obtain ⟨en', h1, h2⟩ := hM.all c d x hx
      refine ⟨en', ?_, h2⟩
      obtain ⟨i, hi, hie⟩ := List.mem_iff_getElem.1 h1
      refine List.mem_eraseIdx_iff_getElem.2 ⟨i, hi, ?_, hie⟩
      rintro rfl
      rw [← hie, hje, hkey, pairV_inj] at h2
      exact hcd ⟨h2.1.symm, h2.2.symm⟩

theorem MapE.none {clock : Nat} : MapE [] clock (fun _ _ => Option.none) := ⟨by simp, by simp, by simp, by simp, by simp⟩
end Go.AM
