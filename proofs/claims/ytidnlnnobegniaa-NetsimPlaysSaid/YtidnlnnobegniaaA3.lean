import Derived.Test.YtidnlnnobegniaaA2
set_option linter.unusedVariables false
set_option linter.unusedSimpArgs false
namespace Go.AM
open Go.RowKit

/-! ### 6. Types -/
inductive TK where
  | int (k : IntKind) | bool | string
  | slice (e : TypeId)
  | array (n : Nat) (e : TypeId)
  | struct (fs : List (Nat × TypeId))
  | ptr (e : TypeId)
  | map (k v : TypeId)
  | other
  deriving Inhabited

def tkOf : TypeDesc → TK
  | .int k => .int k
  | .bool => .bool
  | .string => .string
  | .slice e => .slice e
  | .array n e => .array n e
  | .struct fs => .struct (fs.toList.map fun f => (f.offset, f.type))
  | .pointer e => .ptr e
  | .map k v => .map k v
  | _ => .other

def aggOf : TypeDesc → Bool
  | .struct _ => true
  | .array _ _ => true
  | _ => false

structure TInfo where
  k : TK
  size : Nat
  bytes : Nat
  zero : List Value
  agg : Bool
  eqok : Bool
  places : List (Nat × Nat)

def placesOf (P : Program) : TypeDesc → List (Nat × Nat)
  | .struct fs => fs.toList.map fun f => (f.offset, P.cellsOf f.type)
  | _ => []

def fieldsTold (P : Program) : TypeDesc → Bool
  | .struct fs => fs.all fun f => (P.info? f.type).isSome
  | _ => true

def eqokOf (P : Program) (t : TypeId) : TypeDesc → Bool
  | .struct fs => fs.all (fun f => f.name != "_") && !P.stoodInHeld t && !P.eqGuardType P.depth t
  | _ => false

def tinfo (P : Program) (t : TypeId) : Option TInfo :=
  match P.info? t with
  | none => none
  | some i => match P.underlying t with
    | none => none
    | some d => match i.zero with
      | none => none
      | some z => if z.cells.size = i.size ∧ fieldsTold P d = true then some ⟨tkOf d, i.size, i.bytes, z.cells.toList, aggOf d, eqokOf P t d, placesOf P d⟩ else none

structure TSpec (P : Program) (t : TypeId) (i : TInfo) (inf : TypeInfo) (d : TypeDesc) (z : Value) : Prop where
  info : P.info? t = some inf
  und : P.underlying t = some d
  zero : inf.zero = some z
  k : tkOf d = i.k
  size : inf.size = i.size
  bytes : inf.bytes = i.bytes
  cells : z.cells.toList = i.zero
  zsize : z.cells.size = i.size
  agg : aggOf d = i.agg
  eqok : eqokOf P t d = i.eqok
  places : placesOf P d = i.places
  told : fieldsTold P d = true

theorem tinfo_spec {P : Program} {t : TypeId} {i : TInfo} (h : tinfo P t = some i) : ∃ inf d z, TSpec P t i inf d z := by
  unfold tinfo at h
  cases h1 : P.info? t with
  | none => rw [h1] at h; simp at h
  | some inf =>
    cases h2 : P.underlying t with
    | none => rw [h1, h2] at h; simp at h
    | some d =>
      cases h3 : inf.zero with
      | none => rw [h1, h2] at h; simp only [h3] at h; simp at h
      | some z =>
        rw [h1, h2] at h
        simp only [h3] at h
        split at h
        · rename_i h4
          injection h with h
          subst h
          exact ⟨inf, d, z, ⟨by first | exact h1 | rfl, by first | exact h2 | rfl, h3, rfl, rfl, rfl, rfl, h4.1, rfl, rfl, rfl, h4.2⟩⟩
        · simp at h

section
variable {P : Program} {t : TypeId} {i : TInfo} {inf : TypeInfo} {d : TypeDesc} {z : Value}

theorem TSpec.run_und (h : TSpec P t i inf d z) (w : World) : (underlying t).run P w = .ok d w := run_underlying h.und w
theorem TSpec.run_typeInfo (h : TSpec P t i inf d z) (w : World) : (typeInfo t).run P w = .ok inf w := by simp [typeInfo, h.info]
theorem TSpec.run_size (h : TSpec P t i inf d z) (w : World) : (sizeOf t).run P w = .ok i.size w := by simp [sizeOf, h.run_typeInfo, h.size]
theorem TSpec.run_zero (h : TSpec P t i inf d z) (w : World) : (zeroValue t).run P w = .ok z w := by simp [zeroValue, h.run_typeInfo, h.zero]
theorem TSpec.run_agg (h : TSpec P t i inf d z) (w : World) : (isAgg t).run P w = .ok i.agg w := by
  rw [← h.agg]
  simp only [isAgg, Sem.run_bind, h.run_und, Result.andThen_ok]
  cases d <;> rfl
end

/-! ### 7. Reading and writing variables -/
theorem run_loadVar {P : Program} {t : TypeId} {i : TInfo} (h : tinfo P t = some i) (w : World) (a : Addr) (vs : List Value) (hlen : vs.length = i.size) (hone : i.agg = false → vs.length = 1) (hc : ∀ (j : Nat) v, vs[j]? = some v → w.cell? (a.add j) = some v) :
    (loadVar t a).run P w = .ok (if i.agg then .agg vs.toArray else vs.headD undef) w := by
  obtain ⟨inf, d, z, hs⟩ := tinfo_spec h
  simp only [loadVar, Sem.run_bind, hs.run_agg, Result.andThen_ok]
  cases ha : i.agg with
  | true =>
    simp only [if_true, Sem.run_bind, hs.run_size, Result.andThen_ok, ← hlen]
    rw [run_loadCells_list w a vs hc]
    rfl
  | false =>
    have := hone ha
    match vs, this with
    | [v], _ =>
      have := hc 0 v rfl
      rw [Addr.add_zero'] at this
      simp [run_load, this]

theorem run_storeVar {P : Program} {t : TypeId} {i : TInfo} (h : tinfo P t = some i) (w : World) (b o : Nat) (v : Value) (e : TypeId) (cur : Array Value) (hb : w.heap[b]? = some (.cells cur e (0, 0))) (hsz : v.cells.size = i.size) (hfit : o + v.cells.size ≤ cur.size) (h1 : ∀ u, u ∈ v.cells.toList → u.oneCell' = true) :
    (storeVar t ⟨b, o, none⟩ v).run P w = .ok () (w.setRow b (cur.toList.take o ++ v.cells.toList ++ cur.toList.drop (o + v.cells.size)).toArray) := by
  obtain ⟨inf, d, z, hs⟩ := tinfo_spec h
  simp only [storeVar, Sem.run_bind, hs.run_size, Result.andThen_ok, hsz, ne_eq, not_true_eq_false, if_false]
  have := run_storeCells_at P b o e v.cells.toList 0 cur w hb (by simpa using hfit) h1
  simpa [hsz] using this

/-! ### 8. Values as cells -/
def V1.cs : V1 → List At
  | .one x => [x]
  | .agg cs => cs

theorem V1Rep.cells {G : Heap} {ρ : Places} {v : Value} {y : V1} (h : V1Rep G ρ v y) : All2 (AtRep G ρ) v.cells.toList y.cs := by
  cases y with
  | one x => rw [cells_one h.1]; exact .cons h .nil
  | agg cs =>
    obtain ⟨vs, rfl, h⟩ := h
    simpa [Value.cells, V1.cs] using h

theorem All2.one {G : Heap} {ρ : Places} {vs : List Value} {ys : List At} (h : All2 (AtRep G ρ) vs ys) : ∀ u, u ∈ vs → u.oneCell' = true := by
  induction h with
  | nil => simp
  | cons h t ih =>
    intro u hu
    rcases List.mem_cons.1 hu with rfl | hu
    · exact h.1
    · exact ih u hu

def mkV (agg : Bool) (cs : List At) : Option V1 :=
  if agg then some (.agg cs) else match cs with
    | [y] => some (.one y)
    | _ => none

theorem mkV_rep {G : Heap} {ρ : Places} {agg : Bool} {cs : List At} {y : V1} (h : mkV agg cs = some y) {vs : List Value} (hv : All2 (AtRep G ρ) vs cs) :
    V1Rep G ρ (if agg then .agg vs.toArray else vs.headD undef) y ∧ (agg = false → vs.length = 1) := by
  unfold mkV at h
  cases agg with
  | true => simp at h; subst h; exact ⟨⟨vs, rfl, hv⟩, by simp⟩
  | false =>
    simp only [Bool.false_eq_true, if_false] at h
    split at h
    · injection h with h
      subst h
      cases hv with
      | cons h1 t => cases t; exact ⟨h1, fun _ => rfl⟩
    · simp at h

theorem V1Rep.of_cells {G : Heap} {ρ : Places} {y : V1} {v : Value} (h : V1Rep G ρ v y) : True := trivial

/-! ### 9. Operands -/
def ev (g : State) : Operand → Option SV
  | .tmp t => match g (.slot t) with
    | some (.s y) => some y
    | _ => none
  | .const v => if v.oneCell' then some (.v (.one (.t (.lit v)))) else none
  | .func f => some (.v (.one (.t (.lit (.func (.func f) #[] #[])))))
  | .global _ => none

def evr (g : State) : Operand → List (Loc × Cont)
  | .tmp t => match g (.slot t) with
    | some c => [(.slot t, c)]
    | none => []
  | _ => []

def Reads (rd : List (Loc × Cont)) (s : State) : Prop := ∀ l c, (l, c) ∈ rd → s l = some c
theorem Reads.app {rd rd' : List (Loc × Cont)} {s : State} : Reads (rd ++ rd') s ↔ Reads rd s ∧ Reads rd' s := by
  constructor
  · intro h; exact ⟨fun l c hl => h l c (by simp [hl]), fun l c hl => h l c (by simp [hl])⟩
  · rintro ⟨h1, h2⟩ l c hl
    rcases List.mem_append.1 hl with hl | hl
    · exact h1 l c hl
    · exact h2 l c hl
theorem Reads.cons {p : Loc × Cont} {rd : List (Loc × Cont)} {s : State} : Reads (p :: rd) s ↔ s p.1 = some p.2 ∧ Reads rd s := by
  constructor
  · intro h; exact ⟨h p.1 p.2 (by simp), fun l c hl => h l c (by simp [hl])⟩
  · rintro ⟨h1, h2⟩ l c hl
    rcases List.mem_cons.1 hl with hl | hl
    · cases hl; exact h1
    · exact h2 l c hl
theorem Reads.nil {s : State} : Reads [] s := by intro l c h; simp at h

theorem evr_self (g : State) (x : Operand) : Reads (evr g x) g := by
  intro l c h
  unfold evr at h
  split at h
  · split at h
    · rename_i hg; simp at h; obtain ⟨rfl, rfl⟩ := h; exact hg
    · simp at h
  · simp at h

theorem ev_rep {C : Ctx} {G : Heap} {ρ : Places} {s : State} {a : Act} {w : World} {g : State} {x : Operand} {y : SV} (h : ev g x = some y) (hr : Reads (evr g x) s) (hrel : RelG C G ρ s a w) : SVRep G ρ (a.eval x) y := by
  unfold ev at h
  split at h
  · rename_i t
    split at h
    · rename_i y' hg
      injection h with h
      subst h
      have := hr (.slot t) (.s y') (by simp [evr, hg])
      obtain ⟨v, y, e1, e2, e3⟩ := hrel.slot t _ this
      injection e1 with e1
      subst e1
      simpa [Act.eval, e2] using e3
    · simp at h
  · rename_i v
    split at h
    · rename_i hv
      injection h with h
      subst h
      exact ⟨hv, .lit v⟩
    · simp at h
  · rename_i f
    injection h with h
    subst h
    exact ⟨rfl, .lit _⟩
  · simp at h

/-! ### 10. One operation -/
def OpOK (C : Ctx) (o : Oper) (x : Action) : Prop :=
  ∀ s a w (K : Act → World → Prop) (Q : Exit → Act → World → Prop), Rel C s a w → x.holds s → x.fresh s → (∀ a' w', Rel C (applys s x.wr) a' w' → K a' w') → o.wp C.P a w K Q

theorem applys_append (s : State) (wr wr' : List (Loc × Option Cont)) : applys s (wr ++ wr') = applys (applys s wr) wr' := by
  unfold applys; rw [List.foldl_append]

def wrD (d : Option Nat) (y : SV) : List (Loc × Option Cont) :=
  match d with
  | some d => [(.slot d, some (.s y))]
  | none => []

def dstOK (C : Ctx) (d : Option Nat) : Prop := ∀ n, d = some n → n < C.N

/-- An operation that brings a value. -/
theorem opok_val {C : Ctx} {o : Oper} {rd : List (Loc × Cont)} {wr : List (Loc × Option Cont)} {new : List Nat} {y : SV} (hd : dstOK C o.dst)
    (h : ∀ G ρ s a w, RelG C G ρ s a w → Reads rd s → (∀ κ, κ ∈ new → ¬ Mentions s κ) → ∃ v w' G' ρ', (execOp a.eval o).run C.P w = .ok (.value v) w' ∧ RelG C G' ρ' (applys s wr) a w' ∧ SVRep G' ρ' v y) :
    OpOK C o ⟨rd, wr ++ wrD o.dst y, new⟩ := by
  intro s a w K Q ⟨G, ρ, hrel⟩ hh hf hK
  obtain ⟨v, w', G', ρ', h1, h2, h3⟩ := h G ρ s a w hrel hh hf
  unfold Oper.wp
  rw [h1]
  refine hK _ _ ?_
  rw [applys_append]
  cases hdst : o.dst with
  | none => exact ⟨G', ρ', h2⟩
  | some d => exact ⟨G', ρ', h2.put (hd d hdst) h3⟩

theorem opok_skip {C : Ctx} {o : Oper} {rd : List (Loc × Cont)} {wr : List (Loc × Option Cont)} {new : List Nat} (hd : o.dst = none)
    (h : ∀ G ρ s a w, RelG C G ρ s a w → Reads rd s → (∀ κ, κ ∈ new → ¬ Mentions s κ) → ∃ w' G' ρ', (execOp a.eval o).run C.P w = .ok .skip w' ∧ RelG C G' ρ' (applys s wr) a w') :
    OpOK C o ⟨rd, wr, new⟩ := by
  intro s a w K Q ⟨G, ρ, hrel⟩ hh hf hK
  obtain ⟨w', G', ρ', h1, h2⟩ := h G ρ s a w hrel hh hf
  unfold Oper.wp
  rw [h1]
  refine hK _ _ ?_
  rw [hd]
  exact ⟨G', ρ', h2⟩

theorem step_of_op {C : Ctx} {ops : Array Oper} {i : Nat} {o : Oper} {x : Action} (ho : ops[i]? = some o) (hg : o.guard = none) (h : OpOK C o x) : StepOK C ops i x := by
  intro s a w K Q hr hh hf hK
  unfold wpOp
  rw [ho]
  simp only [Region.wanted, hg, if_true]
  exact .inl (h s a w K Q hr hh hf hK)

def boolS (b : Bool) : Cont := .s (.v (.one (.t (.lit (.bool b)))))

theorem yielded_of {C : Ctx} {G : Heap} {ρ : Places} {s : State} {a : Act} {w : World} {ops : Array Oper} {j d : Nat} {b : Bool} (hd : (ops[j]?).bind (·.dst) = some d) (hrel : RelG C G ρ s a w) (hs : s (.slot d) = some (boolS b)) : yielded ops a.tmps j = some b := by
  obtain ⟨v, y, e1, e2, e3⟩ := hrel.slot d _ hs
  simp only [boolS, Cont.s.injEq] at e1
  subst e1
  have := e3.2.lit_inv
  subst this
  simp [yielded, hd, e2]

theorem step_guarded {C : Ctx} {ops : Array Oper} {i j d : Nat} {b : Bool} {o : Oper} {x : Action} (ho : ops[i]? = some o) (hg : o.guard = some (j, b)) (hd : (ops[j]?).bind (·.dst) = some d) (h : OpOK C o x) :
    StepOK C ops i ⟨(.slot d, boolS b) :: x.rd, x.wr, x.new⟩ := by
  intro s a w K Q hr hh hf hK
  obtain ⟨G, ρ, hrel⟩ := hr
  have hh' := Reads.cons.1 hh
  have hy := yielded_of hd hrel hh'.1
  unfold wpOp
  rw [ho]
  simp only [Region.wanted, hg, hy, beq_self_eq_true, if_true]
  exact .inl (h s a w K Q ⟨G, ρ, hrel⟩ hh'.2 hf hK)

/-- What an operation leaves that wasn't run. -/
def undefS : Cont := .s (.tup [])

def delD (d : Option Nat) : List (Loc × Option Cont) :=
  match d with
  | some d => [(.slot d, some undefS)]
  | none => []

theorem yielded_not {C : Ctx} {G : Heap} {ρ : Places} {s : State} {a : Act} {w : World} {ops : Array Oper} {j d : Nat} (hd : (ops[j]?).bind (·.dst) = some d) (hrel : RelG C G ρ s a w) (hs : s (.slot d) = some undefS) : yielded ops a.tmps j = none := by
  obtain ⟨v, y, e1, e2, e3⟩ := hrel.slot d _ hs
  simp only [undefS, Cont.s.injEq] at e1
  subst e1
  obtain ⟨vs, rfl, h⟩ := e3
  simp [yielded, hd, e2]

theorem rel_skip {C : Ctx} {s : State} {a : Act} {w : World} {d : Option Nat} (hd : dstOK C d) (hrel : Rel C s a w) : Rel C (applys s (delD d)) (a.put d undef) w := by
  obtain ⟨G, ρ, hrel⟩ := hrel
  cases d with
  | none => exact ⟨G, ρ, hrel⟩
  | some n => exact ⟨G, ρ, hrel.put (hd n rfl) ⟨[], rfl, .nil⟩⟩

theorem step_unwanted {C : Ctx} {ops : Array Oper} {i j d : Nat} {b : Bool} {o : Oper} (ho : ops[i]? = some o) (hg : o.guard = some (j, !b)) (hd : (ops[j]?).bind (·.dst) = some d) (hdst : dstOK C o.dst) :
    StepOK C ops i ⟨[(.slot d, boolS b)], delD o.dst, []⟩ := by
  intro s a w K Q hr hh hf hK
  obtain ⟨G, ρ, hrel⟩ := hr
  have hh' := Reads.cons.1 hh
  have hy := yielded_of hd hrel hh'.1
  unfold wpOp
  rw [ho]
  have : (some b == some !b) = false := by cases b <;> rfl
  simp only [Region.wanted, hg, hy, this, Bool.false_eq_true, if_false]
  exact hK _ _ (rel_skip hdst ⟨G, ρ, hrel⟩)

theorem step_unasked {C : Ctx} {ops : Array Oper} {i j d : Nat} {b : Bool} {o : Oper} (ho : ops[i]? = some o) (hg : o.guard = some (j, b)) (hd : (ops[j]?).bind (·.dst) = some d) (hdst : dstOK C o.dst) :
    StepOK C ops i ⟨[(.slot d, undefS)], delD o.dst, []⟩ := by
  intro s a w K Q hr hh hf hK
  obtain ⟨G, ρ, hrel⟩ := hr
  have hh' := Reads.cons.1 hh
  have hy := yielded_not hd hrel hh'.1
  unfold wpOp
  rw [ho]
  have : (none == some b) = false := rfl
  simp only [Region.wanted, hg, hy, this, Bool.false_eq_true, if_false]
  exact hK _ _ (rel_skip hdst ⟨G, ρ, hrel⟩)

/-- A pointer to what nobody writes, however it is told. -/
def evp (g : State) (x : Operand) : Option SV :=
  match ev g x with
  | some (.v (.one (.t (.ptr cs)))) => some (.v (.one (.tptr cs)))
  | y => y
theorem evp_rep {C : Ctx} {G : Heap} {ρ : Places} {s : State} {a : Act} {w : World} {g : State} {x : Operand} {y : SV} (h : evp g x = some y) (hr : Reads (evr g x) s) (hrel : RelG C G ρ s a w) : SVRep G ρ (a.eval x) y := by
  unfold evp at h
  split at h
  · rename_i cs hx
    injection h with h
    subst h
    obtain ⟨h1, h2⟩ := ev_rep hx hr hrel
    generalize a.eval x = v at h1 h2
    cases h2 with
    | ptr ad cells u hcell hrec => exact ⟨h1, ad, rfl, fun k t hk => ⟨u k, (hcell k (List.getElem?_eq_some_iff.1 hk).1).1, (hcell k (List.getElem?_eq_some_iff.1 hk).1).2, hrec k t hk⟩⟩
  · exact ev_rep h hr hrel
end Go.AM
