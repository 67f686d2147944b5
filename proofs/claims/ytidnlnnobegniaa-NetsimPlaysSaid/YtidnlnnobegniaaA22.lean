import Derived.Test.YtidnlnnobegniaaA21
set_option linter.unusedVariables false
set_option linter.unusedSimpArgs false
namespace Go.AM
open Go.RowKit
variable {C : Ctx} {Q : Exit → L → Prop} {σ : L}

/-! ### 27. Calls of all kinds -/
/-- Names for what is new. -/
def news (σ : L) (n : Nat) : List Nat → Option (List (Nat × Nat))
  | [] => some []
  | k :: r => match freshKey σ n with
    | some f => match news σ (n + 3000) r with
      | some l => some ((k, f) :: l)
      | none => none
    | none => none

def vals2 : List (Nat × Nat) → List Nat
  | [] => []
  | (_, b) :: r => b :: vals2 r
def keys2 : List (Nat × Nat) → List Nat
  | [] => []
  | (a, _) :: r => a :: keys2 r

theorem news_keys {σ : L} : ∀ {nk : List Nat} {n : Nat} {l : List (Nat × Nat)}, news σ n nk = some l → keys2 l = nk
  | [], n, l, h => by simp [news] at h; subst h; rfl
  | k :: r, n, l, h => by
    simp only [news] at h
    split at h
    · split at h
      · rename_i l' h2
        injection h with h
        subst h
        simp [keys2, news_keys h2]
      · simp at h
    · simp at h
theorem news_fresh {σ : L} : ∀ {nk : List Nat} {n : Nat} {l : List (Nat × Nat)}, news σ n nk = some l → ∀ f, f ∈ vals2 l → ¬ Mentions (look σ) f
  | [], n, l, h, f, hf => by simp [news] at h; subst h; simp [vals2] at hf
  | k :: r, n, l, h, f, hf => by
    simp only [news] at h
    split at h
    · rename_i f0 h1
      split at h
      · rename_i l' h2
        injection h with h
        subst h
        simp only [vals2, List.mem_cons] at hf
        rcases hf with rfl | hf
        · exact freshKey_spec h1
        · exact news_fresh h2 f hf
      · simp at h
    · simp at h

/-- A function that is called: by its name, or a value that was made of one. -/
def dynR (C : Ctx) (ds : List (Option Nat)) (σ : L) (o : Oper) : Option (FuncId × List V1 × List (Loc × Cont)) :=
  match o.op with
  | .call c => match c.callee with
    | .value z => match ev (look σ) z with
      | some (.v (.one (.t (.fn f caps)))) => match dstB C.N o.dst with
        | true => match guardR C ds o σ with
          | some gd => match argsL (look σ) c.args.toList with
            | some (ys, rd) => some (f, ys ++ caps.map (fun x => .one (.t x)), gd ++ (evr (look σ) z ++ rd))
            | none => none
          | none => none
        | false => none
      | _ => none
    | _ => none
  | _ => none

/-- What is called, with what: however it is told. -/
structure Enters (C : Ctx) (σ : L) (o : Oper) (f : FuncId) (ys : List V1) (rd : List (Loc × Cont)) : Prop where
  reads : Reads rd (look σ)
  exec : ∀ {G : Heap} {ρ : Places} {s : State} {a : Act} {w : World}, RelG C G ρ s a w → Reads rd s → ∃ vals : List Value, (execOp a.eval o).run C.P w = .ok (.enter f vals.toArray) w ∧ All2 (V1Rep G ρ) vals ys

theorem argsL_reps {G : Heap} {ρ : Places} {s : State} {a : Act} {w : World} (hrel : RelG C G ρ s a w) {g : State} : ∀ {xs : List Operand} {ys : List V1} {rd : List (Loc × Cont)}, argsL g xs = some (ys, rd) → Reads rd s → All2 (V1Rep G ρ) (xs.map a.eval) ys
  | [], ys, rd, h, _ => by simp [argsL] at h; obtain ⟨rfl, rfl⟩ := h; exact .nil
  | x :: xs, ys, rd, h, hr => by
    simp only [argsL] at h
    split at h
    · rename_i y hy
      split at h
      · rename_i ys' rd' h2
        simp at h
        obtain ⟨rfl, rfl⟩ := h
        obtain ⟨r1, r2⟩ := Reads.app.1 hr
        exact .cons (ev_rep hy r1 hrel) (argsL_reps hrel h2 r2)
      · simp at h
    · simp at h

theorem callR_enters {ds : List (Option Nat)} {o : Oper} {f : FuncId} {ys : List V1} {rd : List (Loc × Cont)} (hc : callB C.P f = true) (h : callR C ds σ o = some (f, ys, rd)) : ∃ gd rd', Enters C σ o f ys rd' ∧ dstB C.N o.dst = true ∧ guardR C ds o σ = some gd ∧ rd = gd ++ rd' := by
  obtain ⟨xs, ts, gd, rd', ho, hd, hg, ha, rfl⟩ := callR_spec h
  refine ⟨gd, rd', ⟨argsL_reads ha, fun hrel hr => ⟨xs.toList.map _, ?_, argsL_reps hrel ha hr⟩⟩, hd, hg, rfl⟩
  rw [exec_call hc ho]
  congr 2
  apply Array.ext'; simp

theorem dynR_enters {ds : List (Option Nat)} {o : Oper} {f : FuncId} {ys : List V1} {rd : List (Loc × Cont)} (hc : callB C.P f = true) (h : dynR C ds σ o = some (f, ys, rd)) : ∃ gd rd', Enters C σ o f ys rd' ∧ dstB C.N o.dst = true ∧ guardR C ds o σ = some gd ∧ rd = gd ++ rd' := by
  unfold dynR at h
  split at h
  · rename_i c ho
    split at h
    · rename_i z hz
      split at h
      · rename_i f' caps hev
        split at h
        · rename_i hd
          split at h
          · rename_i gd hg
            split at h
            · rename_i ys' rd' ha
              simp only [Option.some.injEq, Prod.mk.injEq] at h
              obtain ⟨rfl, rfl, rfl⟩ := h
              refine ⟨gd, _, ⟨r_app (evr_self _ _) (argsL_reads ha), fun {G ρ s a w} hrel hr => ?_⟩, hd, hg, rfl⟩
              obtain ⟨r1, r2⟩ := Reads.app.1 hr
              have h1 := ev_rep hev r1 hrel
              have h2 := argsL_reps hrel ha r2
              obtain ⟨_, h3⟩ := h1
              generalize hv : a.eval z = v at h3
              cases h3 with
              | fn f vs caps u hl hu hrec =>
                unfold callB at hc
                split at hc
                · rename_i fn hf
                  simp only [Bool.and_eq_true, bne_iff_ne, ne_eq] at hc
                  obtain ⟨b, hb⟩ := Option.isSome_iff_exists.1 hc.2
                  refine ⟨c.args.toList.map a.eval ++ vs, ?_, h2.append ?_⟩
                  · have he : c.args.map a.eval ++ vs.toArray = (c.args.toList.map a.eval ++ vs).toArray := by apply Array.ext'; simp
                    simp [execOp, ho, resolve, hz, hv, Deferred.ofValue, invoke, callFunc, hf, hc.1, hb, he]
                  · refine All2.of_get (by simp [hl]) fun i x y hx hy => ?_
                    simp only [List.getElem?_map, Option.map_eq_some_iff] at hy
                    obtain ⟨t, ht, rfl⟩ := hy
                    obtain ⟨e, h1⟩ := hu i x hx
                    exact ⟨h1, by rw [e]; exact hrec i t ht⟩
                · simp at hc
            · simp at h
          · simp at h
        · simp at h
      · simp at h
    · simp at h
  · simp at h

/-- A call of a function that changes what it is handed. -/
theorem fits_does {f : FuncId} {o : Oper} {ys args : List V1} {rd : List (Loc × Cont)} {pre post : L} {res : SV} {R : List (Nat × Nat)} {nk : List Nat} (hd : dstB C.N o.dst = true) (he : Enters C σ o f ys rd) (hp : Does C.P f args pre res post)
    (hs : All2 SubW ys (args.map (V1.rn R))) (hn : Names R pre post res nk) (hpre : AllIn (ren R pre) σ) (hpost : AllIn post post) (hfr : ∀ n, n ∈ nk → ¬ Mentions (look σ) (rn R n)) :
    Fits C σ o ⟨rd ++ ren R pre, (dels (ren R pre) ++ adds (ren R post)) ++ wrD o.dst (res.rn R), nk.map (rn R)⟩ := by
  refine ⟨?_, r_app he.reads fun l c hm => ?_, fun κ hκ => ?_⟩
  · intro s a w K Q ⟨G, ρ, hrel⟩ hh hf hK
    obtain ⟨r1, r2⟩ := Reads.app.1 hh
    obtain ⟨vals, hex, hvals⟩ := he.exec hrel r1
    unfold Oper.wp
    rw [hex]
    simp only [Oper.upon]
    obtain ⟨h0, h1⟩ := does_rel hrel hn (fun l c hm => r2 _ _ (mem_ren hm)) hpost (fun n hn' => hf _ (List.mem_map.2 ⟨n, hn', rfl⟩)) rfl
    have hargs : All2 (V1Rep G ⟨fun κ => ρ (rn R κ), fun κ => ρ.X (rn R κ)⟩) vals args := (All2.map_iff (R := V1Rep G ⟨fun κ => ρ (rn R κ), fun κ => ρ.X (rn R κ)⟩) (S := V1Rep G ρ) (f := V1.rn R) fun v x _ => V1Rep.rn (ρ' := ρ) fun _ _ => rfl).2 (All2.imp2 (R := V1Rep G ρ) (S := SubW) (fun _ _ _ h1 h2 => SubW.rep h2 h1) hvals hs)
    refine (hp G _ w vals h0 hargs).mono ?_
    rintro e w' ⟨v, rfl, G', ρ', h2, h3⟩
    refine hK _ _ ?_
    obtain ⟨h4, h5⟩ := h1 G' ρ' w' h3
    rw [applys_append]
    cases hdst : o.dst with
    | none => exact ⟨G', _, h4⟩
    | some d => exact ⟨G', _, h4.put (dstB_ok hd d hdst) (h5 v h2)⟩
  · have : ∀ {τ : L}, (l, c) ∈ τ → AllIn τ σ → look σ l = some c := by
      intro τ
      induction τ with
      | nil => intro hm; simp at hm
      | cons p r ih =>
        obtain ⟨l1, c1⟩ := p
        intro hm ha
        simp only [List.mem_cons, Prod.mk.injEq] at hm
        rcases hm with ⟨rfl, rfl⟩ | hm
        · exact ha.1
        · exact ih hm ha.2
    exact this hm hpre
  · obtain ⟨n, hn', rfl⟩ := List.mem_map.1 hκ
    exact hfr n hn'

/-- The names' check, by reckoning: R for what is handed in, N for what is new. -/
def namesB (R N : List (Nat × Nat)) (pre post : L) (res : SV) : Bool :=
  (locKeys pre).all (fun κ => decide (100000 ≤ κ)) && injOn (R ++ N) (locKeys pre) (locKeys pre) && injOn (R ++ N) (keys2 N) (keys2 N) && injOn (R ++ N) (locKeys post) (locKeys post) &&
  (keysL post ++ res.keys).all (fun κ => (decide (κ < 100000) && !(notIn κ (keys2 N))) || (decide (100000 ≤ κ) && notIn (rn (R ++ N) κ) (vals2 N))) && noSlots pre && noSlots post && (keys2 N).all fun n => !(notIn (rn (R ++ N) n) (vals2 N)) && (notIn n (keys2 R))

theorem notIn_false {κ : Nat} : ∀ {l : List Nat}, notIn κ l = false → κ ∈ l
  | [], h => by simp [notIn] at h
  | x :: r, h => by
    simp only [notIn] at h
    split at h
    · rename_i e; subst e; simp
    · simp [notIn_false h]

theorem rn_app_right {N : List (Nat × Nat)} {n : Nat} : ∀ {R : List (Nat × Nat)}, notIn n (keys2 R) = true → rn (R ++ N) n = rn N n
  | [], _ => rfl
  | (a, b) :: r, h => by
    simp only [keys2, notIn] at h
    split at h
    · simp at h
    · rename_i hne
      simp only [List.cons_append, rn, if_neg hne, rn_app_right h]
theorem rn_vals {n : Nat} : ∀ {N : List (Nat × Nat)}, n ∈ keys2 N → rn N n ∈ vals2 N
  | [], h => by simp [keys2] at h
  | (a, b) :: r, h => by
    simp only [rn, vals2, List.mem_cons]
    split
    · exact .inl rfl
    · rename_i hne
      simp only [keys2, List.mem_cons] at h
      exact .inr (rn_vals (h.resolve_left hne))

theorem namesB_spec {R N : List (Nat × Nat)} {pre post : L} {res : SV} (h : namesB R N pre post res = true) : Names (R ++ N) pre post res (keys2 N) ∧ ∀ n, n ∈ keys2 N → rn (R ++ N) n ∈ vals2 N := by
  simp only [namesB, Bool.and_eq_true] at h
  obtain ⟨⟨⟨⟨⟨⟨⟨h1, h2⟩, h3⟩, h3'⟩, h4⟩, h5⟩, h6⟩, h7⟩ := h
  have hv : ∀ n, n ∈ keys2 N → rn (R ++ N) n ∈ vals2 N := fun n hn => by
    have := List.all_eq_true.1 h7 n hn
    simp only [Bool.and_eq_true, Bool.not_eq_true'] at this
    exact notIn_false this.1
  refine ⟨⟨fun κ hκ => ?_, h2, h3, h3', fun κ hκ => ?_, h5, h6⟩, hv⟩
  · have := List.all_eq_true.1 h1 κ hκ
    simpa [keyB] using this
  · have := List.all_eq_true.1 h4 κ hκ
    simp only [Bool.or_eq_true, Bool.and_eq_true, decide_eq_true_eq, Bool.not_eq_true'] at this
    rcases this with ⟨a, b⟩ | ⟨a, b⟩
    · exact .inl ⟨a, notIn_false b⟩
    · refine .inr ⟨a, fun hm => notIn_spec b ?_⟩
      obtain ⟨n, hn, e⟩ := List.mem_map.1 hm
      rw [← e]; exact hv n hn

theorem runD_does {K : L → List Action → Prop} {ds : List (Option Nat)} {P : Program} {f : FuncId} {o : Oper} {ys args : List V1} {rd : List (Loc × Cont)} {pre post : L} {res : SV} {rest : List Oper} {acts : List Action} (R : List (Nat × Nat)) (nk : List Nat) {N : List (Nat × Nat)} (hp : Does P f args pre res post) (hc : callB P f = true) (hP : C.P = P)
    (hr : callR C ds σ o = some (f, ys, rd) ∨ dynR C ds σ o = some (f, ys, rd)) (hN : news σ (dstN o.dst) nk = some N) (hnm : namesB R N pre post res = true) (hs : All2 SubW ys (args.map (V1.rn (R ++ N)))) (hpre : AllIn (ren (R ++ N) pre) σ) (hpost : AllIn post post)
    (k : RunD C ds rest (applyL σ ((dels (ren (R ++ N) pre) ++ adds (ren (R ++ N) post)) ++ wrD o.dst (res.rn (R ++ N)))) (acts ++ [⟨rd ++ ren (R ++ N) pre, (dels (ren (R ++ N) pre) ++ adds (ren (R ++ N) post)) ++ wrD o.dst (res.rn (R ++ N)), (keys2 N).map (rn (R ++ N))⟩]) K) : RunD C ds (o :: rest) σ acts K := by
  subst hP
  obtain ⟨gd, rd', he, hd, hg, rfl⟩ : ∃ gd rd', Enters C σ o f ys rd' ∧ dstB C.N o.dst = true ∧ guardR C ds o σ = some gd ∧ rd = gd ++ rd' := by
    rcases hr with hr | hr
    · exact callR_enters hc hr
    · exact dynR_enters hc hr
  obtain ⟨hn, hv⟩ := namesB_spec hnm
  unfold RunD
  refine guardR_sound hg (fits_does hd he hp hs hn hpre hpost fun n hn' => news_fresh hN _ (hv n hn')) ?_
  simpa using k

/-! ### 28. A call that only looks at rows and variables of the caller's -/
/-- Rows as trees, for the time of a call. -/
def lendA (σ : L) : At → Option (At × List (Loc × Cont))
  | .row κ => match look σ (.vec κ) with
    | some (.r sz e rows) => some (.t (.sl sz rows), [(.vec κ, .r sz e rows)])
    | _ => none
  | .tptr cs => some (.t (.ptr cs), [])
  | .t x => some (.t x, [])
  | _ => none
def lendAs (σ : L) : List At → Option (List At × List (Loc × Cont))
  | [] => some ([], [])
  | y :: ys => match lendA σ y with
    | some (x, rd) => match lendAs σ ys with
      | some (xs, rd') => some (x :: xs, rd ++ rd')
      | none => none
    | none => none
def lendV (σ : L) : V1 → Option (V1 × List (Loc × Cont))
  | .one y => match lendA σ y with
    | some (x, rd) => some (.one x, rd)
    | none => none
  | .agg ys => match lendAs σ ys with
    | some (xs, rd) => some (.agg xs, rd)
    | none => none
def lendL (σ : L) : List V1 → Option (List V1 × List (Loc × Cont))
  | [] => some ([], [])
  | y :: ys => match lendV σ y with
    | some (x, rd) => match lendL σ ys with
      | some (xs, rd') => some (x :: xs, rd ++ rd')
      | none => none
    | none => none

/-- All that lies, nothing of it written. -/
def whole (w : World) : Heap := fun b => w.heap[b]?

theorem lendA_rep {y x : At} {rd : List (Loc × Cont)} (h : lendA σ y = some (x, rd)) : Reads rd (look σ) ∧ ∀ {G : Heap} {ρ : Places} {s : State} {a : Act} {w : World}, RelG C G ρ s a w → Reads rd s → ∀ {v : Value}, AtRep G ρ v y → AtRep (whole w) noPlaces v x := by
  unfold lendA at h
  split at h
  · rename_i κ
    split at h
    · rename_i sz e rows hv
      simp only [Option.some.injEq, Prod.mk.injEq] at h
      obtain ⟨rfl, rfl⟩ := h
      refine ⟨r_one hv, fun {G ρ s a w} hrel hr v hv => ?_⟩
      obtain ⟨h1, rfl, _⟩ := hv
      obtain ⟨sz', e', rows', g1, g2⟩ := hrel.vecr (Reads.cons.1 hr).1
      injection g1 with g1 g1' g1''
      subst g1; subst g1'; subst g1''
      exact ⟨h1, g2.tree (G' := whole w) hrel.gle fun b _ => rfl⟩
    · simp at h
  · simp only [Option.some.injEq, Prod.mk.injEq] at h
    obtain ⟨rfl, rfl⟩ := h
    exact ⟨Reads.nil, fun hrel _ _ hv => ⟨hv.1, (ptr_rep hv.2).ext (G' := whole _) hrel.gle⟩⟩
  · simp only [Option.some.injEq, Prod.mk.injEq] at h
    obtain ⟨rfl, rfl⟩ := h
    exact ⟨Reads.nil, fun hrel _ _ hv => ⟨hv.1, hv.2.ext (G' := whole _) hrel.gle⟩⟩
  · simp at h

theorem lendAs_rep : ∀ {ys xs : List At} {rd : List (Loc × Cont)}, lendAs σ ys = some (xs, rd) → Reads rd (look σ) ∧ ∀ {G : Heap} {ρ : Places} {s : State} {a : Act} {w : World}, RelG C G ρ s a w → Reads rd s → ∀ {vs : List Value}, All2 (AtRep G ρ) vs ys → All2 (AtRep (whole w) noPlaces) vs xs
  | [], xs, rd, h => by
    simp only [lendAs, Option.some.injEq, Prod.mk.injEq] at h
    obtain ⟨rfl, rfl⟩ := h
    exact ⟨Reads.nil, fun _ _ _ hv => by cases hv; exact .nil⟩
  | y :: ys, xs, rd, h => by
    simp only [lendAs] at h
    split at h
    · rename_i x rd1 h1
      split at h
      · rename_i xs' rd2 h2
        simp only [Option.some.injEq, Prod.mk.injEq] at h
        obtain ⟨rfl, rfl⟩ := h
        obtain ⟨a1, a2⟩ := lendA_rep (C := C) h1
        obtain ⟨b1, b2⟩ := lendAs_rep h2
        refine ⟨r_app a1 b1, fun hrel hr _ hv => ?_⟩
        obtain ⟨r1, r2⟩ := Reads.app.1 hr
        cases hv with
        | cons c1 c2 => exact .cons (a2 hrel r1 c1) (b2 hrel r2 c2)
      · simp at h
    · simp at h

theorem lendV_rep {y x : V1} {rd : List (Loc × Cont)} (h : lendV σ y = some (x, rd)) : Reads rd (look σ) ∧ ∀ {G : Heap} {ρ : Places} {s : State} {a : Act} {w : World}, RelG C G ρ s a w → Reads rd s → ∀ {v : Value}, V1Rep G ρ v y → V1Rep (whole w) noPlaces v x := by
  unfold lendV at h
  split at h
  · split at h
    · rename_i h1
      simp only [Option.some.injEq, Prod.mk.injEq] at h
      obtain ⟨rfl, rfl⟩ := h
      exact lendA_rep h1
    · simp at h
  · split at h
    · rename_i h1
      simp only [Option.some.injEq, Prod.mk.injEq] at h
      obtain ⟨rfl, rfl⟩ := h
      obtain ⟨a1, a2⟩ := lendAs_rep (C := C) h1
      exact ⟨a1, fun hrel hr _ ⟨vs, e, hv⟩ => ⟨vs, e, a2 hrel hr hv⟩⟩
    · simp at h

theorem lendL_rep : ∀ {ys xs : List V1} {rd : List (Loc × Cont)}, lendL σ ys = some (xs, rd) → Reads rd (look σ) ∧ ∀ {G : Heap} {ρ : Places} {s : State} {a : Act} {w : World}, RelG C G ρ s a w → Reads rd s → ∀ {vs : List Value}, All2 (V1Rep G ρ) vs ys → All2 (V1Rep (whole w) noPlaces) vs xs
  | [], xs, rd, h => by
    simp only [lendL, Option.some.injEq, Prod.mk.injEq] at h
    obtain ⟨rfl, rfl⟩ := h
    exact ⟨Reads.nil, fun _ _ _ hv => by cases hv; exact .nil⟩
  | y :: ys, xs, rd, h => by
    simp only [lendL] at h
    split at h
    · rename_i x rd1 h1
      split at h
      · rename_i xs' rd2 h2
        simp only [Option.some.injEq, Prod.mk.injEq] at h
        obtain ⟨rfl, rfl⟩ := h
        obtain ⟨a1, a2⟩ := lendV_rep (C := C) h1
        obtain ⟨b1, b2⟩ := lendL_rep h2
        refine ⟨r_app a1 b1, fun hrel hr _ hv => ?_⟩
        obtain ⟨r1, r2⟩ := Reads.app.1 hr
        cases hv with
        | cons c1 c2 => exact .cons (a2 hrel r1 c1) (b2 hrel r2 c2)
      · simp at h
    · simp at h

/-- Results without memory. -/
def litT : T → Bool
  | .lit _ => true
  | _ => false
def litPV : PV → Bool
  | .one t => litT t
  | .agg ts => ts.all litT
def litPR : PR → Bool
  | .v x => litPV x
  | .tup xs => xs.all litPV

theorem litT_rep {G G' : Heap} {ρ ρ' : Places} {v : Value} {t : T} (h : litT t = true) (hv : AtRep G ρ v (.t t)) : AtRep G' ρ' v (.t t) := by
  cases t with
  | lit u =>
    have := hv.2.lit_inv
    subst this
    exact ⟨hv.1, .lit v⟩
  | _ => simp [litT] at h
theorem litPV_rep {G G' : Heap} {ρ ρ' : Places} {v : Value} {x : PV} (h : litPV x = true) (hv : V1Rep G ρ v x.up) : V1Rep G' ρ' v x.up := by
  cases x with
  | one t => exact litT_rep (ρ := ρ) (ρ' := ρ') h hv
  | agg ts =>
    obtain ⟨vs, e, hv⟩ := hv
    refine ⟨vs, e, hv.imp fun u y hy hu => ?_⟩
    simp only [trees, List.mem_map] at hy
    obtain ⟨t, ht, rfl⟩ := hy
    exact litT_rep (List.all_eq_true.1 h t ht) hu
theorem litPR_rep {G G' : Heap} {ρ ρ' : Places} {v : Value} {x : PR} (h : litPR x = true) (hv : SVRep G ρ v x.up) : SVRep G' ρ' v x.up := by
  cases x with
  | v x => exact litPV_rep (ρ := ρ) (ρ' := ρ') h hv
  | tup xs =>
    obtain ⟨vs, e, hv⟩ := hv
    refine ⟨vs, e, hv.imp fun u y hy hu => ?_⟩
    simp only [List.mem_map] at hy
    obtain ⟨t, ht, rfl⟩ := hy
    exact litPV_rep (List.all_eq_true.1 h t ht) hu

theorem fits_lend {f : FuncId} {o : Oper} {ys ys' : List V1} {args : List PV} {rd rd2 : List (Loc × Cont)} {res : PR} (hd : dstB C.N o.dst = true) (he : Enters C σ o f ys rd) (hp : Pure C.P f args res) (hle : lendL σ ys = some (ys', rd2)) (hs : All2 SubV ys' args) (hl : litPR res = true) :
    Fits C σ o ⟨rd ++ rd2, wrD o.dst res.up, []⟩ := by
  obtain ⟨q1, q2⟩ := lendL_rep (C := C) hle
  refine fits_pure ?_ (r_app he.reads q1)
  intro s a w K Q ⟨G, ρ, hrel⟩ hh hf hK
  obtain ⟨r1, r2⟩ := Reads.app.1 hh
  obtain ⟨vals, hex, hvals⟩ := he.exec hrel r1
  unfold Oper.wp
  rw [hex]
  simp only [Oper.upon]
  refine (hp (whole w) w vals (fun _ _ h => h) (All2.imp2 (R := V1Rep (whole w) noPlaces) (S := SubV) (fun _ _ _ h1 h2 => SubV.rep (ρ' := noPlaces) h2 h1) (q2 hrel r2 hvals) hs)).mono ?_
  rintro e w' ⟨v, G', rfl, h1, h2, h3, h4, h5⟩
  refine hK _ _ ?_
  have hrel' := hrel.extend h5 (fun _ _ h => h) (h5.gle hrel.gle) (fun b o hb => .inl hb) (ρ' := ρ) (fun _ _ => rfl) fun _ _ => rfl
  have hv : SVRep G ρ v res.up := litPR_rep hl h1
  cases hdst : o.dst with
  | none => exact ⟨G, ρ, hrel'⟩
  | some d => exact ⟨G, ρ, hrel'.put (dstB_ok hd d hdst) hv⟩

theorem runD_lend {K : L → List Action → Prop} {ds : List (Option Nat)} {P : Program} {f : FuncId} {o : Oper} {ys ys' : List V1} {rd rd2 : List (Loc × Cont)} {args : List PV} {res : PR} {rest : List Oper} {acts : List Action} (hp : Pure P f args res) (hc : callB P f = true) (hP : C.P = P)
    (hr : callR C ds σ o = some (f, ys, rd) ∨ dynR C ds σ o = some (f, ys, rd)) (hle : lendL σ ys = some (ys', rd2)) (hs : All2 SubV ys' args) (hl : litPR res = true)
    (k : RunD C ds rest (applyL σ (wrD o.dst res.up)) (acts ++ [⟨rd ++ rd2, wrD o.dst res.up, []⟩]) K) : RunD C ds (o :: rest) σ acts K := by
  subst hP
  obtain ⟨gd, rd', he, hd, hg, rfl⟩ : ∃ gd rd', Enters C σ o f ys rd' ∧ dstB C.N o.dst = true ∧ guardR C ds o σ = some gd ∧ rd = gd ++ rd' := by
    rcases hr with hr | hr
    · exact callR_enters hc hr
    · exact dynR_enters hc hr
  unfold RunD
  refine guardR_sound hg (fits_lend hd he hp hle hs hl) ?_
  simpa using k
end Go.AM
namespace Go.AM
open Go.RowKit
/-- A row that was handed in, under a key of the act's own. -/
theorem Imp.take {C : Ctx} {σ τ : L} (κ κ' : Nat) {c : Cont} (h1 : notIn κ' (keysL σ) = true) (h3 : look σ (.vec κ) = some c) (hB : κ' < keyB) (h : Imp C (renL κ κ' σ) τ) : Imp C σ τ := (Imp.rename κ κ' h1 hB (.inr ⟨c, h3⟩)).trans h
/-- A state under another key. -/
theorem Imp.back {C : Ctx} {σ τ : L} (κ κ' : Nat) (h1 : notIn κ' (keysL (renL κ' κ τ)) = true) (h2 : renL κ κ' (renL κ' κ τ) = τ) (h3 : notIn κ (keysL τ) = true) (hB : κ' < keyB) (hB0 : κ < keyB) (h : Imp C σ (renL κ' κ τ)) : Imp C σ τ := by
  have := h.trans (Imp.rename κ κ' h1 hB (.inl hB0))
  rwa [h2] at this
end Go.AM
