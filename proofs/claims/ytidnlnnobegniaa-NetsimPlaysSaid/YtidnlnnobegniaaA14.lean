import Derived.Test.YtidnlnnobegniaaA13
set_option linter.unusedVariables false
set_option linter.unusedSimpArgs false
namespace Go.AM
open Go.RowKit

/-! ### 16. A row that is written no more -/
def At.sub (κ : Nat) (t : T) : At → At
  | .row κ' => if κ' = κ then .t t else .row κ'
  | x => x
def V1.sub (κ : Nat) (t : T) : V1 → V1
  | .one x => .one (x.sub κ t)
  | .agg cs => .agg (cs.map (At.sub κ t))
def SV.sub (κ : Nat) (t : T) : SV → SV
  | .v x => .v (x.sub κ t)
  | .tup xs => .tup (xs.map (V1.sub κ t))
def Cont.sub (κ : Nat) (t : T) : Cont → Cont
  | .s x => .s (x.sub κ t)
  | .c x => .c (x.sub κ t)
  | .r sz e rows => .r sz e rows
  | .o I ks => .o I ks

theorem All2.map_right {α β γ : Type} {R : α → β → Prop} {S : α → γ → Prop} {f : β → γ} {as : List α} {bs : List β} (h : All2 R as bs) (hf : ∀ a b, R a b → S a (f b)) : All2 S as (bs.map f) := by
  induction h with
  | nil => exact .nil
  | cons h t ih => exact .cons (hf _ _ h) ih

theorem AtRep.sub {G : Heap} {ρ : Places} {v : Value} {x : At} {κ : Nat} {t : T} (ht : VRep G (ρ κ) t) (h : AtRep G ρ v x) : AtRep G ρ v (x.sub κ t) := by
  cases x with
  | row κ' =>
    simp only [At.sub]
    split
    · rename_i e; subst e; obtain ⟨h1, h2, _⟩ := h; exact ⟨h1, by rw [h2]; exact ht⟩
    · exact h
  | _ => exact h
theorem V1Rep.sub {G : Heap} {ρ : Places} {v : Value} {x : V1} {κ : Nat} {t : T} (ht : VRep G (ρ κ) t) (h : V1Rep G ρ v x) : V1Rep G ρ v (x.sub κ t) := by
  cases x with
  | one x => exact AtRep.sub ht h
  | agg cs =>
    obtain ⟨vs, e, h⟩ := h
    exact ⟨vs, e, h.map_right fun _ _ h => h.sub ht⟩
theorem SVRep.sub {G : Heap} {ρ : Places} {v : Value} {x : SV} {κ : Nat} {t : T} (ht : VRep G (ρ κ) t) (h : SVRep G ρ v x) : SVRep G ρ v (x.sub κ t) := by
  cases x with
  | v x => exact V1Rep.sub ht h
  | tup xs =>
    obtain ⟨vs, e, h⟩ := h
    exact ⟨vs, e, h.map_right fun _ _ h => h.sub ht⟩

theorem At.sub_t {κ : Nat} {t : T} {x : At} {t' : T} (h : x = .t t') : x.sub κ t = .t t' := by subst h; rfl

/-- A row as a tree, its block being among those that nobody writes. -/
theorem VecRep.tree {G : Heap} {w : World} {v : Value} {sz : Nat} {e : TypeId} {rows : List (List T)} (h : VecRep G w v sz e rows) {G' : Heap} (hG : GExt G G') (hb : ∀ b, blk v = some b → G' b = w.heap[b]?) : VRep G' v (.sl sz rows) := by
  obtain ⟨h0, xs, hown, hel⟩ := h
  rcases hown.2 with ⟨rfl, hn⟩ | ⟨b, cap, cur, rfl, _, hbk, hnc, _, hcs, htk⟩
  · have : rows = [] := List.eq_nil_of_length_eq_zero hn
    subst this
    exact VRep.nil G' sz
  · have hG' : G' b = some (.cells cur e (0, 0)) := by rw [hb b rfl, hbk]
    have hx : ∀ (j : Nat) u, xs[j]? = some u → cur[j]? = some u := by
      intro j u hj
      rw [← htk, List.getElem?_take] at hj
      split at hj
      · simpa using hj
      · simp at hj
    refine .sl _ _ _ _ _ (fun i k => xs.getD (i * sz + k) (.bool false)) rfl hnc h0 (.inl rfl) ?_ ?_
    · intro ad he i k hi hk
      simp at he
      subst he
      have hc : rows[i]? = some rows[i] := List.getElem?_eq_getElem hi
      obtain ⟨u, h1, h2, _⟩ := hel i _ k _ hc (List.getElem?_eq_getElem (by rw [h0 i _ hc]; exact hk))
      rw [List.getD_eq_getElem?_getD, h1]
      refine ⟨?_, h2⟩
      rw [add_add, Addr.add_lit]
      simp [gcell, hG', hx _ _ h1]
    · intro i cells k t hi hk
      obtain ⟨u, h1, _, h3⟩ := hel i cells k t hi hk
      rw [List.getD_eq_getElem?_getD, h1]
      exact h3.ext hG

def freezeS (s : State) (κ : Nat) (t : T) : State := fun l => if l = .vec κ then none else (s l).map (Cont.sub κ t)

theorem At.sub_keys {κ κ' : Nat} {t : T} {x : At} (h : κ' ∈ (x.sub κ t).keys) : κ' ∈ x.keys := by
  cases x with
  | row κ2 =>
    simp only [At.sub] at h
    split at h
    · simp [At.keys] at h
    · exact h
  | _ => exact h

theorem RelG.freeze {C : Ctx} {G : Heap} {ρ : Places} {s : State} {a : Act} {w : World} (h : RelG C G ρ s a w) {κ sz : Nat} {e : TypeId} {rows : List (List T)} (hv : s (.vec κ) = some (.r sz e rows)) :
    Rel C (freezeS s κ (.sl sz rows)) a w := by
  obtain ⟨sz', e', rows', g1, g2⟩ := h.vecr hv
  injection g1 with g1 g1' g1''
  subst g1; subst g1'; subst g1''
  -- its block joins
  let G' : Heap := fun b => if blk (ρ κ) = some b then w.heap[b]? else G b
  have hG : GExt G G' := fun b o hb => by
    show (if blk (ρ κ) = some b then w.heap[b]? else G b) = some o
    split
    · exact h.gle b o hb
    · exact hb
  have hle : GLe G' w := fun b o hb => by
    change (if blk (ρ κ) = some b then w.heap[b]? else G b) = some o at hb
    split at hb
    · exact hb
    · exact h.gle b o hb
  have ht : VRep G' (ρ κ) (.sl sz rows) := g2.tree hG fun b hb => by show (if blk (ρ κ) = some b then w.heap[b]? else G b) = _; rw [if_pos hb]
  have hsub : ∀ l c, freezeS s κ (.sl sz rows) l = some c → ∃ c0, s l = some c0 ∧ c = c0.sub κ (.sl sz rows) ∧ l.key ≠ some κ := by
    intro l c hl
    unfold freezeS at hl
    split at hl
    · simp at hl
    · rename_i hne
      simp only [Option.map_eq_some_iff] at hl
      obtain ⟨c0, h1, rfl⟩ := hl
      exact ⟨c0, h1, rfl, fun hk => hne (vec_only h hv h1 hk)⟩
  refine ⟨G', ρ, h.os, h.tape, h.output, h.size, h.block, hle, fun b o hb => hG b o (h.g0 b o hb), ?_, h.keep, h.old, h.defers, h.ntmps, ?_, ?_, ?_, ?_, ?_⟩
  · intro b o hb
    change (if blk (ρ κ) = some b then w.heap[b]? else G b) = some o at hb
    split at hb
    · rename_i he
      rcases (h.live _ _ κ b hv rfl (.inl he)).2.2 with h1 | h1 | h1
      · exact .inr (.inr ⟨κ, h1.2.1, h1.2.2⟩)
      · exact .inr (.inr h1)
      · exact .inr (.inl h1)
    · exact h.gnew b o hb
  · intro l c κ' b hl hk hb
    obtain ⟨c0, h1, _, hne⟩ := hsub l c hl
    obtain ⟨h2, h3, h4⟩ := h.live l c0 κ' b h1 hk hb
    refine ⟨?_, h3, h4⟩
    show (if blk (ρ κ) = some b then w.heap[b]? else G b) = none
    rw [if_neg]
    · exact h2
    · intro hb'
      have := h.inj l c0 _ _ κ' κ b h1 hv hk rfl hb (.inl hb')
      subst this
      exact hne hk
  · intro l c l' c' κ1 κ2 b hl hl' hk hk' hb hb'
    obtain ⟨c0, h1, _, _⟩ := hsub l c hl
    obtain ⟨c0', h1', _, _⟩ := hsub l' c' hl'
    exact h.inj l c0 l' c0' κ1 κ2 b h1 h1' hk hk' hb hb'
  · intro n x hx
    obtain ⟨c0, h1, rfl, _⟩ := hsub _ _ hx
    obtain ⟨v, y, e1, e2, e3⟩ := h.slot n c0 h1
    subst e1
    exact ⟨v, y.sub κ (.sl sz rows), rfl, e2, (e3.move hG fun _ _ => rfl).sub ht⟩
  · intro κ' k x hx
    obtain ⟨c0, h1, rfl, _⟩ := hsub _ _ hx
    obtain ⟨y, b, u, c, e, e1, e2, e3, e4, e5⟩ := h.cell κ' k c0 h1
    subst e1
    exact ⟨y.sub κ (.sl sz rows), b, u, c, e, rfl, e2, e3, e4, (e5.move hG fun _ _ => rfl).sub ht⟩
  · intro κ' x hx
    obtain ⟨c0, h1, rfl, _⟩ := hsub _ _ hx
    have h2 : ContRep G' w ρ κ' c0 := (h.vec κ' c0 h1).same hG fun _ _ => rfl
    cases c0 with
    | s _ => exact h2.elim
    | c _ => exact h2.elim
    | r _ _ _ => exact h2
    | o _ _ => exact h2

def freezeL (κ : Nat) (t : T) : L → L
  | [] => []
  | (l, c) :: r => if l = .vec κ then freezeL κ t r else (l, c.sub κ t) :: freezeL κ t r

theorem look_freezeL (κ : Nat) (t : T) (σ : L) : look (freezeL κ t σ) = freezeS (look σ) κ t := by
  funext x
  induction σ with
  | nil => simp [freezeL, look, freezeS]
  | cons p r ih =>
    obtain ⟨l, c⟩ := p
    simp only [freezeL]
    split
    · rename_i h; subst h; rw [ih]; simp only [freezeS, look]
      by_cases h1 : x = .vec κ <;> simp [h1]
    · rename_i h
      simp only [look, ih, freezeS]
      by_cases h1 : x = l
      · subst h1; simp [h]
      · simp [h1]

/-- All rows that a list has. -/
def vecsOf : L → List (Nat × T)
  | [] => []
  | (.vec κ, .r sz _ rows) :: r => (κ, .sl sz rows) :: vecsOf r
  | _ :: r => vecsOf r

def freezeAll (σ : L) : List (Nat × T) → L
  | [] => σ
  | (κ, t) :: r => match look σ (.vec κ) with
    | some (.r sz _ rows) => freezeAll (freezeL κ (.sl sz rows) σ) r
    | _ => freezeAll σ r

theorem rel_freezeAll {C : Ctx} {a : Act} {w : World} : ∀ (l : List (Nat × T)) (σ : L), Rel C (look σ) a w → Rel C (look (freezeAll σ l)) a w
  | [], σ, h => h
  | (κ, t) :: r, σ, h => by
    simp only [freezeAll]
    split
    · rename_i sz e rows hv
      refine rel_freezeAll r _ ?_
      obtain ⟨G, ρ, h⟩ := h
      rw [look_freezeL]
      exact h.freeze hv
    · exact rel_freezeAll r σ h

variable {C : Ctx} {Q : Exit → L → Prop} {σ : L}

theorem awp_freeze {c : Code} (κ : Nat) {sz : Nat} {e : TypeId} {rows : List (List T)} (hv : look σ (.vec κ) = some (.r sz e rows)) (h : AWP C c Q (freezeL κ (.sl sz rows) σ)) : AWP C c Q σ := by
  intro a w ⟨G, ρ, hr⟩
  refine h a w ?_
  rw [look_freezeL]
  exact hr.freeze hv

/-- Fewer facts, in whatever order. -/
def subL (σ' σ : L) : Prop := ∀ l c, look σ' l = some c → look σ l = some c
theorem awp_weaken {c : Code} {σ' : L} (hs : subL σ' σ) (h : AWP C c Q σ') : AWP C c Q σ := fun a w hr => h a w (hr.weaken hs)

/-! ### 17. Functions -/
inductive PV where
  | one (t : T)
  | agg (ts : List T)
  deriving Inhabited
inductive PR where
  | v (x : PV)
  | tup (xs : List PV)
  deriving Inhabited
def PV.up : PV → V1
  | .one t => .one (.t t)
  | .agg ts => .agg (trees ts)
def PR.up : PR → SV
  | .v x => .v x.up
  | .tup xs => .tup (xs.map PV.up)

theorem trees_keys {ts : List T} {x : At} (h : x ∈ trees ts) : x.keys = [] := by
  simp only [trees, List.mem_map] at h
  obtain ⟨t, _, rfl⟩ := h
  rfl
theorem PV.up_keys (x : PV) : x.up.keys = [] := by
  cases x with
  | one t => rfl
  | agg ts =>
    simp only [PV.up, V1.keys, List.flatMap_eq_nil_iff]
    exact fun y hy => trees_keys hy
theorem PR.up_keys (x : PR) : x.up.keys = [] := by
  cases x with
  | v x => exact x.up_keys
  | tup xs =>
    simp only [PR.up, SV.keys, List.flatMap_eq_nil_iff, List.mem_map]
    rintro y ⟨x, _, rfl⟩
    exact x.up_keys

def noPlaces : Places := ⟨fun _ => .bool false, fun _ _ => False⟩

/-- What a call that writes nothing of what there was comes to: trees in, trees out. -/
def Pure (P : Program) (f : FuncId) (args : List PV) (res : PR) : Prop :=
  ∀ (G : Heap) (w : World) (vals : List Value), GLe G w → All2 (fun v (x : PV) => V1Rep G noPlaces v x.up) vals args →
    Calls P f vals.toArray w fun e w' => ∃ v G', e = .returned v ∧ SVRep G' noPlaces v res.up ∧ GLe G' w' ∧ GExt G G' ∧ (∀ b o, G' b = some o → G b = some o ∨ w.heap.size ≤ b) ∧ Grew w w'

/-! #### coercion: nil is a slice without elements -/
inductive SubT : At → T → Prop where
  | same (x : T) : SubT (.t x) x
  | nil (sz : Nat) : SubT (.t (.lit (.slice none 0 0))) (.sl sz [])
  | ptr (cs : List T) : SubT (.tptr cs) (.ptr cs)
inductive SubV : V1 → PV → Prop where
  | one {y x} (h : SubT y x) : SubV (.one y) (.one x)
  | agg {ys xs} (h : All2 SubT ys xs) : SubV (.agg ys) (.agg xs)
inductive SubR : SV → PR → Prop where
  | v {y x} (h : SubV y x) : SubR (.v y) (.v x)
  | tup {ys xs} (h : All2 SubV ys xs) : SubR (.tup ys) (.tup xs)

theorem SubT.rep {G : Heap} {ρ ρ' : Places} {v : Value} {y : At} {x : T} (h : SubT y x) (hv : AtRep G ρ v y) : AtRep G ρ' v (.t x) := by
  cases h with
  | same x => exact ⟨hv.1, hv.2⟩
  | nil sz =>
    have := hv.2.lit_inv
    subst this
    exact ⟨rfl, VRep.nil G sz⟩
  | ptr cs => exact ⟨hv.1, ptr_rep hv.2⟩

theorem SubV.rep {G : Heap} {ρ ρ' : Places} {v : Value} {y : V1} {x : PV} (h : SubV y x) (hv : V1Rep G ρ v y) : V1Rep G ρ' v x.up := by
  cases h with
  | one h => exact SubT.rep (ρ' := ρ') h hv
  | agg h =>
    obtain ⟨vs, e, hv⟩ := hv
    refine ⟨vs, e, ?_⟩
    clear e
    induction h generalizing vs with
    | nil => cases hv; exact .nil
    | cons h1 t ih =>
      cases hv with
      | cons h2 t2 => exact .cons (SubT.rep (ρ' := ρ') h1 h2) (ih _ t2)

theorem SubR.rep {G : Heap} {ρ ρ' : Places} {v : Value} {y : SV} {x : PR} (h : SubR y x) (hv : SVRep G ρ v y) : SVRep G ρ' v x.up := by
  cases h with
  | v h => exact h.rep hv
  | tup h =>
    obtain ⟨vs, e, hv⟩ := hv
    refine ⟨vs, e, ?_⟩
    clear e
    induction h generalizing vs with
    | nil => cases hv; exact .nil
    | cons h1 t ih =>
      cases hv with
      | cons h2 t2 => exact .cons (h1.rep h2) (ih _ t2)

/-! #### entering a body -/
def entry : Nat → List PV → L
  | _, [] => []
  | n, x :: xs => (.slot n, .s (.v x.up)) :: entry (n + 1) xs

theorem look_entry : ∀ (xs : List PV) (n : Nat) (l : Loc) (c : Cont), look (entry n xs) l = some c → ∃ i x, l = .slot (n + i) ∧ xs[i]? = some x ∧ c = .s (.v x.up)
  | [], n, l, c, h => by simp [entry, look] at h
  | x :: xs, n, l, c, h => by
    simp only [entry, look] at h
    split at h
    · rename_i e; subst e; injection h with h; exact ⟨0, x, rfl, rfl, h.symm⟩
    · obtain ⟨i, y, h1, h2, h3⟩ := look_entry xs (n + 1) l c h
      exact ⟨i + 1, y, by rw [h1, show n + 1 + i = n + (i + 1) by omega], by simpa using h2, h3⟩

/-- A result variable's value. -/
def resL (P : Program) (σ : L) : ResultVar → Option V1
  | .tmp t => match look σ (.slot t) with
    | some (.s (.v y)) => some y
    | _ => none
  | .cell a t => match look σ (.slot a) with
    | some (.s (.v (.one (.ptr κ off)))) => match tinfo P t with
      | some i => if i.size = 0 then none else match takeC (look σ) κ off i.size with
        | some ys => mkV i.agg ys
        | none => none
      | none => none
    | _ => none

def resAll (P : Program) (σ : L) : List ResultVar → Option (List V1)
  | [] => some []
  | r :: rs => match resL P σ r with
    | some y => match resAll P σ rs with
      | some ys => some (y :: ys)
      | none => none
    | none => none

def packL : List V1 → SV
  | [y] => .v y
  | ys => .tup ys

def pureCtx (P : Program) (N : Nat) (w0 : World) (G0 : Heap) : Ctx := ⟨P, w0, G0, fun _ => False, noPlaces, N⟩
theorem pure_mv {P : Program} {N : Nat} {w0 : World} {G0 : Heap} {b : Nat} : ¬ (pureCtx P N w0 G0).MV b := fun ⟨_, h, _⟩ => h
theorem pure_m {P : Program} {N : Nat} {w0 : World} {G0 : Heap} {b : Nat} : ¬ (pureCtx P N w0 G0).M b := fun ⟨_, _, h, _⟩ => h

/-- What a body leaves. -/
def Leaves (P : Program) (rs : List ResultVar) (res : PR) (e : Exit) (σ : L) : Prop :=
  (e = .normal ∨ e = .ret) ∧ ∃ ys, resAll P (freezeAll σ (vecsOf σ)) rs = some ys ∧ SubR (packL ys) res

def resOne (a : Act) : ResultVar → Sem Value
  | .tmp t => pure (a.tmps.getD t undef)
  | .cell ad t => do loadVar t (← asAddr (a.tmps.getD ad undef))

theorem results_eq (fn : Func) (a : Act) : results fn a.tmps = (fn.results.mapM (resOne a) >>= fun vs => pure (if h : vs.size = 1 then vs[0] else .tuple vs)) := by
  unfold results
  have : (fun (x : ResultVar) => match x with
    | .tmp t => (pure (a.tmps.getD t undef) : Sem Value)
    | .cell ad t => do loadVar t (← asAddr (a.tmps.getD ad undef))) = resOne a := by
    funext r; cases r <;> rfl
  rw [← this]
  rfl

theorem run_resL {C : Ctx} {G : Heap} {ρ : Places} {σ : L} {a : Act} {w : World} (hrel : RelG C G ρ (look σ) a w) {r : ResultVar} {y : V1} (h : resL C.P σ r = some y) :
    ∃ v, (resOne a r).run C.P w = .ok v w ∧ V1Rep G ρ v y := by
  cases r with
  | tmp t =>
    simp only [resL] at h
    split at h
    · rename_i y' hy
      injection h with h
      subst h
      obtain ⟨v, y2, e1, e2, e3⟩ := hrel.slot t _ hy
      injection e1 with e1
      subst e1
      exact ⟨v, by simp [resOne, e2], e3⟩
    · simp at h
  | cell ad t =>
    simp only [resL] at h
    split at h
    · rename_i κ off hy
      split at h
      · rename_i i hi
        split at h
        · simp at h
        · rename_i h0
          split at h
          · rename_i ys hys
            obtain ⟨v, y2, e1, e2, e3⟩ := hrel.slot ad _ hy
            injection e1 with e1
            subst e1
            obtain ⟨_, b, f1, f2⟩ := e3
            obtain ⟨g1, g2⟩ := takeC_reads hys
            obtain ⟨cur, e, vs, k1, k2, k3, k4⟩ := cells_there hrel f1 g1 (by rintro rfl; simp at g2; omega)
            obtain ⟨m1, m2⟩ := mkV_rep h k2
            have := run_loadVar hi w ⟨b, off, none⟩ vs (by rw [k2.length, g2]) m2 fun j v hj => by
              rw [Addr.add_lit]
              simp [World.cell?, k1, k3 j v hj]
            exact ⟨_, by simp [resOne, e2, f2, asAddr, this], m1⟩
          · simp at h
      · simp at h
    · simp at h

theorem run_results {C : Ctx} {G : Heap} {ρ : Places} {σ : L} {a : Act} {w : World} (hrel : RelG C G ρ (look σ) a w) {fn : Func} {ys : List V1} (h : resAll C.P σ fn.results.toList = some ys) :
    ∃ v, (results fn a.tmps).run C.P w = .ok v w ∧ SVRep G ρ v (packL ys) := by
  have key : ∀ (rs : List ResultVar) (ys : List V1), resAll C.P σ rs = some ys → ∃ vs : List Value, (rs.mapM (resOne a)).run C.P w = .ok vs w ∧ All2 (V1Rep G ρ) vs ys := by
    intro rs
    induction rs with
    | nil => intro ys h; simp [resAll] at h; subst h; exact ⟨[], by simp, .nil⟩
    | cons r rs ih =>
      intro ys h
      simp only [resAll] at h
      split at h
      · rename_i y hy
        split at h
        · rename_i ys' hys
          injection h with h
          subst h
          obtain ⟨v, h1, h2⟩ := run_resL hrel hy
          obtain ⟨vs, h3, h4⟩ := ih ys' hys
          exact ⟨v :: vs, by simp [List.mapM_cons, h1, h3], .cons h2 h4⟩
        · simp at h
      · simp at h
  obtain ⟨vs, h1, h2⟩ := key _ _ h
  have hl := h2.length
  have harr : (fn.results.mapM (resOne a)).run C.P w = .ok vs.toArray w := by
    rw [Array.mapM_eq_mapM_toList]
    simp only [Sem.run_map, h1, Result.andThen_ok]
  rw [results_eq]
  simp only [Sem.run_bind, harr, Result.andThen_ok, Sem.run_pure]
  match vs, ys, h2, hl with
  | [], [], h2, _ => exact ⟨.tuple #[], rfl, ⟨[], rfl, .nil⟩⟩
  | [v], [y], .cons h3 _, _ => exact ⟨v, rfl, h3⟩
  | v :: v2 :: vs, y :: y2 :: ys, h2, _ => exact ⟨.tuple (v :: v2 :: vs).toArray, by simp, ⟨_, rfl, h2⟩⟩

theorem calls_body {P : Program} {f : FuncId} {fn : Func} {c : Code} {args : List PV} {res : PR} (hf : P.funcs[f]? = some fn) (hb : fn.body = some c) (hN : args.length ≤ fn.ntmps) {G : Heap} {w : World} {vals : List Value} (hle : GLe G w) (hvals : All2 (fun v (x : PV) => V1Rep G noPlaces v x.up) vals args)
    (h : AWP (pureCtx P fn.ntmps w G) c (Leaves P fn.results.toList res) (entry 0 args)) :
    Calls P f vals.toArray w fun e w' => ∃ v G', e = .returned v ∧ SVRep G' noPlaces v res.up ∧ GLe G' w' ∧ GExt G G' ∧ (∀ b o, G' b = some o → G b = some o ∨ w.heap.size ≤ b) ∧ Grew w w' := by
  refine calls_of_wp hf hb ?_
  have hvl := hvals.length
  have hrel : Rel (pureCtx P fn.ntmps w G) (look (entry 0 args)) { tmps := vals.toArray ++ Array.replicate (fn.ntmps - vals.toArray.size) undef, defers := [] } w := by
    refine ⟨G, noPlaces, rfl, rfl, rfl, Nat.le_refl _, fun _ _ _ => rfl, hle, fun _ _ h => h, fun _ _ h => .inl h, fun b c e f h _ => ⟨c, h, rfl, fun _ _ => rfl⟩, fun _ _ => rfl, rfl, ?_, ?_, ?_, ?_, ?_, ?_⟩
    · simp [pureCtx]; omega
    · intro l c κ b hl hk
      obtain ⟨i, x, rfl, _⟩ := look_entry _ _ _ _ hl
      simp [Loc.key] at hk
    · intro l c l' c' κ κ' b hl _ hk
      obtain ⟨i, x, rfl, _⟩ := look_entry _ _ _ _ hl
      simp [Loc.key] at hk
    · intro n x hx
      obtain ⟨i, y, h1, h2, h3⟩ := look_entry _ _ _ _ hx
      simp at h1
      subst h1
      obtain ⟨v, h4, h5⟩ := hvals.get h2
      refine ⟨v, _, h3, ?_, h5⟩
      have hi : n < vals.length := (List.getElem?_eq_some_iff.1 h4).1
      rw [Array.getElem?_append_left (by simpa using hi)]
      simpa using h4
    · intro κ k x hx
      obtain ⟨i, y, h1, _⟩ := look_entry _ _ _ _ hx
      simp at h1
    · intro κ x hx
      obtain ⟨i, y, h1, _⟩ := look_entry _ _ _ _ hx
      simp at h1
  refine wp_mono (h _ w hrel) ?_
  rintro e a' w' ⟨σ', ⟨he, ys, hys, hsub⟩, hr'⟩
  obtain ⟨G', ρ', hr'⟩ := rel_freezeAll (C := pureCtx P fn.ntmps w G) (vecsOf σ') σ' hr'
  obtain ⟨v, h1, h2⟩ := run_results hr' hys
  have hgrew : Grew w w' := ⟨hr'.os, hr'.tape, hr'.output, hr'.size, fun b hb => hr'.block b hb pure_m⟩
  have hgn : ∀ b o, G' b = some o → G b = some o ∨ w.heap.size ≤ b := fun b o hb => by
    rcases hr'.gnew b o hb with h | h | h
    · exact .inl h
    · exact .inr h
    · exact absurd h pure_mv
  have hR : ∃ v G', Ending.returned v = .returned v ∧ True := ⟨v, G', rfl, trivial⟩
  rcases he with rfl | rfl
  · exact ⟨hr'.defers, v, h1, v, G', rfl, hsub.rep h2, hr'.gle, hr'.g0, hgn, hgrew⟩
  · exact ⟨hr'.defers, v, h1, v, G', rfl, hsub.rep h2, hr'.gle, hr'.g0, hgn, hgrew⟩


theorem pure_of_body {P : Program} {f : FuncId} {fn : Func} {c : Code} {args : List PV} {res : PR} (hf : P.funcs[f]? = some fn) (hb : fn.body = some c) (hN : args.length ≤ fn.ntmps)
    (h : ∀ w0 G0, AWP (pureCtx P fn.ntmps w0 G0) c (Leaves P fn.results.toList res) (entry 0 args)) : Pure P f args res :=
  fun G w vals hle hvals => calls_body hf hb hN hle hvals (h w G)

/-- A body that asks whether its slice is nil. -/
theorem pure_of_slice {P : Program} {f : FuncId} {fn : Func} {c : Code} {sz : Nat} {rows : List (List T)} {res : PR} (hf : P.funcs[f]? = some fn) (hb : fn.body = some c) (hN : 1 ≤ fn.ntmps)
    (hnil : rows = [] → ∀ w0 G0, AWP (pureCtx P fn.ntmps w0 G0) c (Leaves P fn.results.toList res) (entry 0 [.one (.lit (.slice none 0 0))]))
    (hsome : ∀ w0 G0 ad n cp, VRep G0 (.slice (some ad) n cp) (.sl sz rows) → AWP (pureCtx P fn.ntmps w0 G0) c (Leaves P fn.results.toList res) (entry 0 [.one (.lit (.slice (some ad) n cp))])) : Pure P f [.one (.sl sz rows)] res := by
  intro G w vals hle hvals
  cases hvals with
  | cons h1 t =>
    cases t
    obtain ⟨h2, h3⟩ := h1
    rename_i v
    have hex : ∃ A n cp, v = .slice A n cp ∧ (A = none → n = 0 ∧ cp = 0 ∧ rows = []) := by
      cases h3 with
      | sl A n cp sz rows u hn hc hsz hA hcell hrec =>
        refine ⟨A, n, cp, rfl, fun e => ?_⟩
        have hc0 : cp = 0 := hA.resolve_left (by simp [e])
        have hn0 : n = 0 := by omega
        exact ⟨hn0, hc0, List.eq_nil_of_length_eq_zero (by omega)⟩
    obtain ⟨A, n, cp, rfl, hA⟩ := hex
    cases A with
    | none =>
      obtain ⟨rfl, rfl, hr⟩ := hA rfl
      exact calls_body (args := [.one (.lit (.slice none 0 0))]) hf hb hN hle (.cons ⟨rfl, .lit _⟩ .nil) (hnil hr w G)
    | some ad => exact calls_body (args := [.one (.lit (.slice (some ad) n cp))]) hf hb hN hle (.cons ⟨rfl, .lit _⟩ .nil) (hsome w G ad n cp h3)

end Go.AM
