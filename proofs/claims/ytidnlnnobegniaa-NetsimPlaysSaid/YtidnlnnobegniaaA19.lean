import Derived.Test.YtidnlnnobegniaaA18
import Derived.ProofKit
import Derived.SizedLaws
set_option linter.unusedVariables false
set_option linter.unusedSimpArgs false
namespace Go.AM
open Go.RowKit Go.ChangeShapes Go.WideShapes

/-! ### 24. What is handed in, as trees -/
inductive Sh where
  | int (k : IntKind)
  | bool
  | str
  | sl (es : List Sh) (b : Nat)

def shFs (sh : TypeId → Option (List Sh)) (P : Program) : Nat → List Field → Option (List Sh)
  | _, [] => some []
  | off, f :: fs => if f.offset = off then match sh f.type with
    | some a => if a.length = P.cellsOf f.type then match shFs sh P (off + a.length) fs with
      | some b => some (a ++ b)
      | none => none else none
    | none => none else none

def shOf (P : Program) : Nat → TypeId → Option (List Sh)
  | 0, _ => none
  | m + 1, t => match P.underlying t with
    | some .bool => some [.bool]
    | some (.int k) => some [.int k]
    | some .string => some [.str]
    | some (.slice e) => match shOf P m e with
      | some es => if es.length = P.cellsOf e then some [.sl es (P.bytesOf e)] else none
      | none => none
    | some (.struct fs) => match shFs (shOf P m) P 0 fs.toList with
      | some a => if a.length = P.cellsOf t then some a else none
      | none => none
    | _ => none

inductive Fit : Sh → T → Prop where
  | int (k : IntKind) (n : Int) (h : k.min ≤ n ∧ n ≤ k.max) : Fit (.int k) (.lit (.int k n))
  | bool (b : Bool) : Fit .bool (.lit (.bool b))
  | str (s : ByteArray) (h : s.size ≤ maxLen) : Fit .str (.lit (.string s))
  | sl (es : List Sh) (b : Nat) (rows : List (List T)) (hlen : rows.length ≤ maxLen) (hb : rows.length * b ≤ reachBytes) (hsz : ∀ (i : Nat) row, rows[i]? = some row → row.length = es.length)
      (h : ∀ (i : Nat) row, rows[i]? = some row → ∀ (k : Nat) s t, es[k]? = some s → row[k]? = some t → Fit s t) : Fit (.sl es b) (.sl es.length rows)

def heapOf (w : World) : Heap := fun b => w.heap[b]?

structure Reps (w : World) (ss : List Sh) (cs : List Value) (ts : List T) : Prop where
  lc : cs.length = ss.length
  lt : ts.length = ss.length
  rep : ∀ (k : Nat) v t, cs[k]? = some v → ts[k]? = some t → v.oneCell' = true ∧ VRep (heapOf w) v t
  fit : ∀ (k : Nat) s t, ss[k]? = some s → ts[k]? = some t → Fit s t

theorem Reps.one {w : World} {s : Sh} {v : Value} {t : T} (h1 : v.oneCell' = true) (h2 : VRep (heapOf w) v t) (h3 : Fit s t) : Reps w [s] [v] [t] :=
  ⟨rfl, rfl, fun k v' t' hv ht => by cases k <;> simp at hv ht; subst hv; subst ht; exact ⟨h1, h2⟩, fun k s' t' hs ht => by cases k <;> simp at hs ht; subst hs; subst ht; exact h3⟩

theorem Reps.append {w : World} {ss ss' : List Sh} {cs cs' : List Value} {ts ts' : List T} (h : Reps w ss cs ts) (h' : Reps w ss' cs' ts') : Reps w (ss ++ ss') (cs ++ cs') (ts ++ ts') := by
  refine ⟨by simp [h.lc, h'.lc], by simp [h.lt, h'.lt], fun k v t hv ht => ?_, fun k s t hs ht => ?_⟩
  · by_cases hk : k < ss.length
    · rw [List.getElem?_append_left (by rw [h.lc]; exact hk)] at hv
      rw [List.getElem?_append_left (by rw [h.lt]; exact hk)] at ht
      exact h.rep k v t hv ht
    · rw [List.getElem?_append_right (by rw [h.lc]; omega), h.lc] at hv
      rw [List.getElem?_append_right (by rw [h.lt]; omega), h.lt] at ht
      exact h'.rep _ v t hv ht
  · by_cases hk : k < ss.length
    · rw [List.getElem?_append_left hk] at hs
      rw [List.getElem?_append_left (by rw [h.lt]; exact hk)] at ht
      exact h.fit k s t hs ht
    · rw [List.getElem?_append_right (by omega)] at hs
      rw [List.getElem?_append_right (by rw [h.lt]; omega), h.lt] at ht
      exact h'.fit _ s t hs ht

section
variable {H : Type} {enc : TypeId × Value → H} {P : Program} {w : World} {base : Nat} {spare : Nat → Bool} {held : Bool}

def Light (P : Program) (t : TypeId) (d : DataW H) : Prop := ∀ n, n ∈ d.weights P t → n ≤ reachBytes
theorem weights_all {e : TypeId} {d : DataW H} : ∀ {ds : List (DataW H)}, d ∈ ds → ∀ n, n ∈ d.weights P e → n ∈ DataW.weightsAll P e ds
  | [], h, _, _ => by simp at h
  | d0 :: r, h, n, hn => by
    simp only [DataW.weightsAll, List.mem_append]
    rcases List.mem_cons.1 h with rfl | h
    · exact .inl hn
    · exact .inr (weights_all h n hn)

theorem reps_fs {sh : TypeId → Option (List Sh)} {n : Nat} (ih : ∀ t ss cs x, sh t = some ss → DataW.trod enc P w base spare held n t cs = some x → Light P t x.1 → ∃ ts, Reps w ss cs ts) :
    ∀ (fs : List Field) (off : Nat) (ss : List Sh) (cs : List Value), shFs sh P off fs = some ss → cs.length = off + ss.length → (∀ (i : Nat) f, fs[i]? = some f → ∃ x, DataW.trod enc P w base spare held n f.type ((cs.drop f.offset).take (P.cellsOf f.type)) = some x ∧ Light P f.type x.1) → ∃ ts, Reps w ss (cs.drop off) ts
  | [], off, ss, cs, h, hl, _ => by
    simp only [shFs, Option.some.injEq] at h
    subst h
    refine ⟨[], ?_⟩
    have : cs.drop off = [] := by rw [List.drop_eq_nil_iff]; simp at hl; omega
    rw [this]
    exact ⟨rfl, rfl, by simp, by simp⟩
  | f :: fs, off, ss, cs, h, hl, hx => by
    simp only [shFs] at h
    split at h
    · rename_i ho
      split at h
      · rename_i a ha
        split at h
        · rename_i hal
          split at h
          · rename_i b hb
            injection h with h
            subst h
            obtain ⟨x, hx0, hx1⟩ := hx 0 f rfl
            obtain ⟨ts1, r1⟩ := ih _ _ _ _ ha hx0 hx1
            obtain ⟨ts2, r2⟩ := reps_fs ih fs (off + a.length) b cs hb (by simp at hl; omega) fun i f' hf => hx (i + 1) f' (by simpa using hf)
            refine ⟨ts1 ++ ts2, ?_⟩
            have := r1.append r2
            rw [ho, ← hal] at this
            rwa [← List.drop_drop, List.take_append_drop] at this
          · simp at h
        · simp at h
      · simp at h
    · simp at h

theorem trod_rep : ∀ (m : Nat) (t : TypeId) (ss : List Sh), shOf P m t = some ss → ∀ (fuel : Nat) (cs : List Value) (x : DataW H × List MemPlace), DataW.trod enc P w base spare held fuel t cs = some x → Light P t x.1 → ∃ ts, Reps w ss cs ts
  | 0, t, ss, h, _, _, _, _, _ => by simp [shOf] at h
  | m + 1, t, ss, h, fuel, cs, x, hx, hlt => by
    simp only [shOf] at h
    cases fuel with
    | zero => simp [DataW.trod] at hx
    | succ n =>
    split at h
    · rename_i hu
      injection h with h; subst h
      unfold DataW.trod at hx
      rw [hu] at hx
      split at hx <;> first | (simp_all; done) | skip
      all_goals try (rename_i e _; injection e with e)
      all_goals first | (simp_all; done) | skip
      rename_i b _
      exact ⟨[.lit (.bool b)], Reps.one rfl (.lit _) (.bool b)⟩
    · rename_i k hu
      injection h with h; subst h
      obtain ⟨n', hc, _, hw⟩ := DataW.trod_int hu hx
      subst hc
      simp only [Lit.wf, Bool.and_eq_true, decide_eq_true_eq] at hw
      exact ⟨[.lit (.int k n')], Reps.one rfl (.lit _) (.int k n' hw)⟩
    · rename_i hu
      injection h with h; subst h
      unfold DataW.trod at hx
      rw [hu] at hx
      split at hx <;> first | (simp_all; done) | skip
      all_goals try (rename_i e _; injection e with e)
      all_goals first | (simp_all; done) | skip
      rename_i s _
      split at hx
      · rename_i hs
        exact ⟨[.lit (.string s)], Reps.one rfl (.lit _) (.str s hs)⟩
      · simp at hx
    · rename_i e hu
      split at h
      · rename_i es hes
        split at h
        · rename_i hel
          injection h with h; subst h
          rcases DataW.trod_slice hu hx with ⟨rfl, _⟩ | ⟨a, len, cap, elems, rest, n', _, rfl, rfl, _, h1, h2, h3, h4, _⟩
          · exact ⟨[.sl es.length []], Reps.one rfl (VRep.nil _ _) (.sl es _ [] (Nat.zero_le _) (by simp) (by simp) (by simp))⟩
          · have key : ∀ i, i < len → ∃ (cs : List Value) (ts : List T), w.cells? base (a.add (i * P.cellsOf e)) (P.cellsOf e) = some cs ∧ Reps w es cs ts := by
              intro i hi
              have h5 := h4 i hi
              rw [List.getElem?_eq_getElem (by omega)] at h5
              simp only [Option.bind_eq_some_iff] at h5
              obtain ⟨cs, h6, h7⟩ := h5
              obtain ⟨ts, h8⟩ := trod_rep m e es hes n' cs _ h7 fun n hn => hlt n (by
                simp only [DataW.weights, hu, List.mem_cons, List.mem_append]
                exact .inr (.inl (weights_all (List.mem_map.2 ⟨_, List.getElem_mem _, rfl⟩) n hn)))
              exact ⟨cs, ts, h6, h8⟩
            have hch : ∃ f : Nat → List Value × List T, ∀ i, i < len → w.cells? base (a.add (i * P.cellsOf e)) (P.cellsOf e) = some (f i).1 ∧ Reps w es (f i).1 (f i).2 := by
              refine ⟨fun i => if hi : i < len then ((key i hi).choose, (key i hi).choose_spec.choose) else ([], []), fun i hi => ?_⟩
              simp only [hi, dif_pos]
              exact (key i hi).choose_spec.choose_spec
            obtain ⟨f, hf⟩ := hch
            have hrow : ∀ (i : Nat) row, ((List.range len).map fun i => (f i).2)[i]? = some row → i < len ∧ row = (f i).2 := by
              intro i row hi
              have hlt : i < len := by have := (List.getElem?_eq_some_iff.1 hi).1; simpa using this
              rw [List.getElem?_map, List.getElem?_range hlt] at hi
              simp at hi
              exact ⟨hlt, hi.symm⟩
            refine ⟨[.sl es.length ((List.range len).map fun i => (f i).2)], Reps.one rfl ?_ ?_⟩
            · refine .sl _ _ _ _ _ (fun i k => ((f i).1).getD k (.bool false)) (by simp) h1 ?_ (.inl rfl) ?_ ?_
              · intro i cells hi
                obtain ⟨hlt, rfl⟩ := hrow i cells hi
                exact (hf i hlt).2.lt
              · intro ad he i k hi hk
                simp at he; subst he
                obtain ⟨g1, g2⟩ := hf i hi
                obtain ⟨_, g3, g4⟩ := World.cells?_some g1
                have hk' : k < P.cellsOf e := by rw [← hel]; exact hk
                have g5 := g4 k hk'
                have hkc : k < (f i).1.length := by omega
                rw [List.getElem?_eq_getElem hkc] at g5
                rw [List.getD_eq_getElem?_getD, List.getElem?_eq_getElem hkc]
                have hkt : k < (f i).2.length := by rw [g2.lt]; exact hk
                refine ⟨?_, (g2.rep k _ _ (List.getElem?_eq_getElem hkc) (List.getElem?_eq_getElem hkt)).1⟩
                rw [hel]
                exact g5
              · intro i cells k t hi hk
                obtain ⟨hlt, rfl⟩ := hrow i cells hi
                obtain ⟨g1, g2⟩ := hf i hlt
                have hkt : k < (f i).2.length := (List.getElem?_eq_some_iff.1 hk).1
                have hkc : k < (f i).1.length := by rw [g2.lc, ← g2.lt]; exact hkt
                rw [List.getD_eq_getElem?_getD, List.getElem?_eq_getElem hkc]
                exact (g2.rep k _ _ (List.getElem?_eq_getElem hkc) hk).2
            · refine .sl es _ _ (by simp; omega) ?_ ?_ ?_
              · have := hlt ((elems.length + rest.length) * P.bytesOf e) (by simp [DataW.weights, hu])
                simp only [List.length_map, List.length_range]
                refine Nat.le_trans (Nat.mul_le_mul_right _ ?_) this
                omega
              · intro i row hi
                obtain ⟨hlt, rfl⟩ := hrow i row hi
                exact (hf i hlt).2.lt
              · intro i row hi k s t hs ht
                obtain ⟨hlt, rfl⟩ := hrow i row hi
                exact (hf i hlt).2.fit k s t hs ht
        · simp at h
      · simp at h
    · rename_i fs hu
      split at h
      · rename_i a ha
        split at h
        · rename_i hal
          injection h with h; subst h
          obtain ⟨xs, n', hn, rfl, hl, hxl, hf⟩ := DataW.trod_struct hu hx
          obtain ⟨ts, r⟩ := reps_fs (enc := enc) (base := base) (spare := spare) (held := held) (n := n') (fun t ss cs x hs hx hl => trod_rep m t ss hs n' cs x hx hl) fs.toList 0 a cs ha (by omega) fun i f hf' => by
            have h1 : fs[i]? = some f := by simpa using hf'
            have h2 := hf i f h1
            have hi : i < xs.length := by rw [hxl]; exact (Array.getElem?_eq_some_iff.1 h1).1
            rw [List.getElem?_eq_getElem hi] at h2
            refine ⟨_, h2, fun n hn => hlt n ?_⟩
            simp only [DataW.weights, hu]
            exact DataW.weights_mem_each (j := i) (by simp [hf']) (by simp [List.getElem?_eq_getElem hi]) n hn
          exact ⟨ts, by simpa using r⟩
        · simp at h
      · simp at h
    · simp at h
end

def FitsAll (ss : List Sh) (ts : List T) : Prop := ts.length = ss.length ∧ ∀ (k : Nat) s t, ss[k]? = some s → ts[k]? = some t → Fit s t

section
variable {H : Type} {enc : TypeId × Value → H} {P : Program} {W : World} {b base m : Nat} {spare : Nat → Bool} {held : Bool} {r : Go.Reach} {t : TypeId} {v : Value} {d : DataW H} {ps : List MemPlace} {ss : List Sh}

theorem arg_agg {fs : Array Field} (hu : P.underlying t = some (.struct fs)) (hs : shOf P m t = some ss) (hv : Value.okWide P W r base t v) (h : DataW.Trod enc P W b spare held t v d ps) (hl : Light P t d) :
    ∃ ts, FitsAll ss ts ∧ V1Rep (heapOf W) noPlaces v (PV.agg ts).up := by
  simp only [Value.okWide, hu] at hv
  obtain ⟨cs, rfl, _, _⟩ := hv
  obtain ⟨fuel, h⟩ := h
  obtain ⟨ts, hr⟩ := trod_rep m t ss hs fuel _ _ h hl
  have hcs : (Value.agg cs).cells = cs := rfl
  rw [hcs] at hr
  refine ⟨ts, ⟨hr.lt, hr.fit⟩, cs.toList, by simp, ?_⟩
  refine All2.of_get (by simp [trees, hr.lc, hr.lt]) fun i a c ha hc => ?_
  simp only [trees, List.getElem?_map, Option.map_eq_some_iff] at hc
  obtain ⟨t', ht', rfl⟩ := hc
  exact hr.rep i a t' ha ht'

theorem arg_one {D : TypeDesc} (hu : P.underlying t = some D) (hD : D = .bool ∨ (∃ k, D = .int k) ∨ D = .string ∨ ∃ e, D = .slice e) (hs : shOf P m t = some ss) (hv : Value.okWide P W r base t v) (h : DataW.Trod enc P W b spare held t v d ps) (hl : Light P t d) :
    ∃ x, FitsAll ss [x] ∧ V1Rep (heapOf W) noPlaces v (PV.one x).up := by
  have h1 : v.oneCell' = true := by
    rcases hD with rfl | ⟨k, rfl⟩ | rfl | ⟨e, rfl⟩ <;> simp only [Value.okWide, hu, Cell.okWide, Cell.ok] at hv <;> cases v <;> first | rfl | (exfalso; exact hv)
  obtain ⟨fuel, h⟩ := h
  obtain ⟨ts, hr⟩ := trod_rep m t ss hs fuel _ _ h hl
  rw [cells_one h1] at hr
  have hl : ss.length = 1 := by simpa using hr.lc.symm
  have hlt := hr.lt
  match ts, hlt with
  | [], hlt => simp at hlt; omega
  | [x], hlt => exact ⟨x, ⟨hr.lt, hr.fit⟩, hr.rep 0 v x rfl rfl⟩
  | _ :: _ :: _, hlt => simp at hlt; omega
end

theorem light_of {H : Type} {P : Program} {ts : List TypeId} {ds : List (DataW H)} (h : (DataW.weightsEach P ts ds).all (· ≤ reachBytes) = true) {j : Nat} {t : TypeId} {d : DataW H} (ht : ts[j]? = some t) (hd : ds[j]? = some d) : Light P t d := fun n hn => by
  have := List.all_eq_true.1 h n (DataW.weights_mem_each ht hd n hn)
  simpa using this

/-! ### 25. The row -/
theorem Grew.toBelow {W W' : World} (h : Grew W W') : Below W.heap.size W W' := ⟨h.os, h.tape, h.output, h.size, h.block⟩

theorem trodAll_stays {H : Type} {enc : TypeId × Value → H} {P : Program} (hl : laidOutB P = true) {W W' : World} (hg : Grew W W') {sp : Nat → Bool} : ∀ (ts : List TypeId) (vs : List Value) (ds : List (DataW H)) (ps : List MemPlace), (∀ t, t ∈ ts → P.readableRec t = true ∧ t < P.types.size) → (∀ p ∈ ps, p.block < W.heap.size) → (∀ p ∈ ps, sp p.block = true) →
    DataW.TrodAll enc P W 0 (fun _ => true) true ts vs ds ps → DataW.TrodAll enc P W' 0 sp true ts vs ds ps
  | [], [], [], ps, _, _, _, h => h
  | t :: ts, v :: vs, d :: ds, ps, hr, hlt, hsp, h => by
    obtain ⟨p, q, h1, h2, rfl⟩ := h
    refine ⟨p, q, WideElems.Trod_stays hl (hr t (by simp)).1 (hr t (by simp)).2 h1 (fun x hx => hg.toBelow.same (hlt x (by simp [hx]))) (fun x hx => hsp x (by simp [hx])), ?_, rfl⟩
    exact trodAll_stays hl hg ts vs ds q (fun t' ht' => hr t' (by simp [ht'])) (fun x hx => hlt x (by simp [hx])) (fun x hx => hsp x (by simp [hx])) h2
  | [], [], _ :: _, _, _, _, _, h => by simp [DataW.TrodAll] at h
  | [], _ :: _, _, _, _, _, _, h => by simp [DataW.TrodAll] at h
  | _ :: _, [], _, _, _, _, _, h => by simp [DataW.TrodAll] at h
  | _ :: _, _ :: _, [], _, _, _, _, h => by simp [DataW.TrodAll] at h

theorem Grew.kept {W W' : World} (h : Grew W W') (may : MemPlace → Prop) : W.keptBut W' may := by
  refine ⟨h.os, h.output, fun i hi => ?_⟩
  rw [h.block i hi]
  cases W.heap[i]? with
  | none => rfl
  | some o => cases o with
    | cells c t fr => exact ⟨rfl, rfl, rfl, fun _ _ => rfl⟩
    | map es clock => exact .inr ⟨rfl, rfl⟩
    | _ => rfl

theorem Grew.frozen {W W' : World} (h : Grew W W') {a : Addr} (ha : a.block < W.heap.size) : W'.frozen? a = W.frozen? a := by
  simp only [World.frozen?, h.block a.block ha]

/-- The law returned true, and below nothing has turned. -/
theorem post_true {H : Type} {enc : TypeId × Value → H} {P : Program} (hl : laidOutB P = true) {f : Func} {s : ChangeSpec} {apart fresh handsOn again : Bool} {W W' : World} {args : Array Value} {ds gs : List (DataW H)} {before : List MemPlace} {tb : TypeId}
    (hrt : f.resultTypes = #[tb]) (hb : P.underlying tb = some .bool) (hsv : s.vars = [])
    (hres : (s.fn H (ds ++ gs)).results = [.lit (.bool true)]) (hargs : (s.fn H (ds ++ gs)).args = ds) (hvs : (s.fn H (ds ++ gs)).vars = [])
    (hread : ∀ t, t ∈ f.params.toList → P.readableRec t = true ∧ t < P.types.size)
    (hW : DataW.Whole enc P f.params.toList s.vars apart W args.toList ds gs before) (hg : Grew W W') :
    s.post enc P f apart fresh handsOn again W args (.bool true) W' := by
  have hW0 := hW
  have hlt := hW.lt
  obtain ⟨p, q, hA, hV, rfl, hz, hn⟩ := hW
  rw [hsv] at hV
  obtain ⟨rfl, rfl⟩ := trodVars_none hV
  simp only [List.append_nil] at hlt hz hn hW0 hres hargs hvs
  have hT : ∀ sp : Nat → Bool, (∀ x ∈ p, sp x.block = true) → DataW.TrodAll enc P W' 0 sp true f.params.toList args.toList (s.fn H ds).args p := fun sp hsp => by
    rw [hargs]; exact trodAll_stays hl hg _ _ _ _ hread hlt hsp hA
  have hR : ∀ (b : Nat) (sp : Nat → Bool) (hd : Bool), DataW.TrodAll enc P W' b sp hd f.resultTypes.toList ((Value.bool true).resultList f.resultTypes.size) (s.fn H ds).results [] := fun b sp hd => by
    rw [hres, hrt]
    exact ⟨[], [], ⟨1, by simp [Value.cells, DataW.trod, hb]⟩, rfl, rfl⟩
  have hVs : ∀ sp : Nat → Bool, DataW.TrodVars enc P W' sp s.vars (s.fn H ds).vars [] := fun sp => by rw [hsv, hvs]; rfl
  have hold : ∀ x ∈ p, (fun b => decide (b < W.heap.size)) x.block = true := fun x hx => by simpa using hlt x hx
  refine ⟨ds, [], p, [], p, [], hW0, ?_, ?_, ?_, ?_, fun _ => ?_⟩
  · simpa using hR _ _ _
  · simpa using hT _ hold
  · simpa using hVs _
  · exact hg.kept _
  · refine ⟨?_, _, _, ([] ++ p) ++ [], ⟨[] ++ p, [], trodAll_append (by simpa using hT _ (fun _ _ => rfl)) (by simpa using hR _ _ _), by simpa using hVs _, rfl, ?_, ?_⟩, ?_⟩
    · intro j t r h1 h2
      rw [hrt] at h1 h2
      cases j with
      | zero =>
        simp only [List.getElem?_toArray, List.getElem?_cons_zero, Option.some.injEq] at h1
        subst h1
        have : r = .bool true := by simpa [Value.resultList] using h2.symm
        subst this
        simp [Value.okWide, hb, Cell.okWide, Cell.ok]
      | succ j => simp at h1
    · intro b off hp
      rw [hg.frozen (a := ⟨b, off, none⟩) (hlt (.cell b off) (by simpa using hp))]
      exact hz b off (by simpa using hp)
    · intro ha
      simpa using hn ha
    · intro x hx _
      simpa using hx
end Go.AM
