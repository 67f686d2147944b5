import Derived.Test.YtidnlnnobegniaaA15
set_option linter.unusedVariables false
set_option linter.unusedSimpArgs false
namespace Go.AM
open Go.RowKit

/-! ### 21. Runs, as far as the reckoning goes -/
def lastW : List (Loc × Option Cont) → Loc → Option (Option Cont)
  | [], _ => none
  | (l, c) :: r, x => match lastW r x with
    | some y => some y
    | none => if x = l then some c else none

theorem lastW_spec : ∀ {wr : List (Loc × Option Cont)} {x : Loc} {y : Option Cont} (s : State), lastW wr x = some y → applys s wr x = y
  | [], x, y, s, h => by simp [lastW] at h
  | (l, c) :: r, x, y, s, h => by
    simp only [lastW] at h
    rw [applys_cons]
    split at h
    · rename_i z hz
      injection h with h
      subst h
      exact lastW_spec _ hz
    · rename_i hz
      split at h
      · rename_i he
        injection h with h
        subst h; subst he
        have : x ∉ r.map (·.1) := by
          intro hm
          induction r with
          | nil => simp at hm
          | cons p r ih =>
            simp only [lastW] at hz
            split at hz
            · simp at hz
            · rename_i h2
              split at hz
              · simp at hz
              · rename_i h3
                simp only [List.map_cons, List.mem_cons] at hm
                rcases hm with hm | hm
                · exact h3 hm
                · exact ih h2 hm
        rw [applys_other _ this, upd_same]
      · simp at h

def frzW (κ : Nat) (t : T) : List (Loc × Option Cont) → List (Loc × Option Cont)
  | [] => []
  | (l, c) :: r => if l = .vec κ then frzW κ t r else (l, c.map (Cont.sub κ t)) :: frzW κ t r

theorem freezeS_applys (κ : Nat) (t : T) : ∀ (wr : List (Loc × Option Cont)) (s : State), freezeS (applys s wr) κ t = applys (freezeS s κ t) (frzW κ t wr)
  | [], s => rfl
  | (l, c) :: r, s => by
    rw [applys_cons, freezeS_applys κ t r]
    simp only [frzW]
    split
    · rename_i h
      congr 1
      funext x
      simp only [freezeS, upd, h]
      split <;> rfl
    · rename_i h
      rw [applys_cons]
      congr 1
      funext x
      simp only [freezeS, upd]
      by_cases h1 : x = l
      · subst h1; simp [h]
      · simp [h1]

theorem At.sub_id {κ : Nat} {t : T} {x : At} (h : κ ∉ x.keys) : x.sub κ t = x := by
  cases x <;> simp only [At.sub, At.keys, List.mem_singleton] at h ⊢
  rw [if_neg fun e => h e.symm]
theorem V1.sub_id {κ : Nat} {t : T} {x : V1} (h : κ ∉ x.keys) : x.sub κ t = x := by
  cases x with
  | one x => simp only [V1.sub, V1.keys] at h ⊢; rw [At.sub_id h]
  | agg cs =>
    simp only [V1.sub, V1.keys, List.mem_flatMap, not_exists, not_and] at h ⊢
    congr 1
    rw [List.map_congr_left fun c hc => At.sub_id (h c hc), List.map_id']
theorem SV.sub_id {κ : Nat} {t : T} {x : SV} (h : κ ∉ x.keys) : x.sub κ t = x := by
  cases x with
  | v x => simp only [SV.sub, SV.keys] at h ⊢; rw [V1.sub_id h]
  | tup xs =>
    simp only [SV.sub, SV.keys, List.mem_flatMap, not_exists, not_and] at h ⊢
    congr 1
    rw [List.map_congr_left fun c hc => V1.sub_id (h c hc), List.map_id']
theorem Cont.sub_id {κ : Nat} {t : T} {x : Cont} (h : κ ∉ x.keys) : x.sub κ t = x := by
  cases x with
  | s x => simp only [Cont.sub, Cont.keys] at h ⊢; rw [SV.sub_id h]
  | c x => simp only [Cont.sub, Cont.keys] at h ⊢; rw [At.sub_id h]
  | r _ _ _ => rfl
  | o _ _ => rfl

theorem freezeS_id {s : State} {κ : Nat} {t : T} (h : ¬ Mentions s κ) : freezeS s κ t = s := by
  funext l
  simp only [freezeS]
  split
  · rename_i e; subst e
    cases hl : s (.vec κ) with
    | none => rfl
    | some c => exact (h (.inr ⟨_, c, hl, .inl rfl⟩)).elim
  · cases hl : s l with
    | none => rfl
    | some c => simp only [Option.map_some]; rw [Cont.sub_id fun hk => h (.inr ⟨l, c, hl, .inr hk⟩)]

/-- What is made and never written: a tree at once. -/
def frzA (x : Action) : Option Action :=
  match x.new with
  | [κ] => match lastW x.wr (.vec κ) with
    | some (some (.r sz e rows)) => some ⟨x.rd, frzW κ (.sl sz rows) x.wr, [κ]⟩
    | _ => none
  | _ => none

theorem fits_frz {C : Ctx} {σ : L} {o : Oper} {x x' : Action} (h : Fits C σ o x) (hx : frzA x = some x') : Fits C σ o x' := by
  unfold frzA at hx
  split at hx
  · rename_i κ hκ
    split at hx
    · rename_i sz e rows hl
      injection hx with hx
      subst hx
      refine ⟨?_, h.rd, fun κ' hκ' => h.new κ' (by rw [hκ]; exact hκ')⟩
      intro s a w K Q hrel hh hf hK
      refine h.ok s a w K Q hrel hh (fun κ' hκ' => hf κ' (by rw [hκ] at hκ'; exact hκ')) ?_
      rintro a' w' ⟨G, ρ, hr⟩
      refine hK a' w' ?_
      have h1 := hr.freeze (lastW_spec s hl)
      rw [freezeS_applys, freezeS_id (hf κ (by simp))] at h1
      exact h1
    · simp at hx
  · simp at hx

/-- What is to be a tree at once: the slots. -/
def inF (F : List Nat) : Option Nat → Bool
  | none => false
  | some d => !(notIn d F)

def actF (C : Ctx) (F : List Nat) (σ : L) (o : Oper) : Option Action :=
  match inF F o.dst with
  | true => match act C.P C.N σ o with
    | some x => frzA x
    | none => none
  | false => act C.P C.N σ o

theorem actF_ok {C : Ctx} {F : List Nat} {σ : L} {o : Oper} {x : Action} (h : actF C F σ o = some x) : Fits C σ o x := by
  unfold actF at h
  split at h
  · split at h
    · rename_i y hy
      exact fits_frz (act_ok hy) h
    · simp at h
  · exact act_ok h

def stepR (C : Ctx) (F : List Nat) (ds : List (Option Nat)) (o : Oper) (σ : L) : Option (L × Action) :=
  match o.guard with
  | none => match actF C F σ o with
    | some x => some (applyL σ x.wr, x)
    | none => none
  | some (j, b) => match ds[j]? with
    | some (some d) => match look σ (.slot d) with
      | some (.s (.v (.one (.t (.lit (.bool c)))))) => match c == b with
        | true => match actF C F σ o with
          | some x => some (applyL σ x.wr, ⟨(.slot d, boolS c) :: x.rd, x.wr, x.new⟩)
          | none => none
        | false => match dstB C.N o.dst with
          | true => some (applyL σ (delD o.dst), ⟨[(.slot d, boolS c)], delD o.dst, []⟩)
          | false => none
      | some (.s (.tup [])) => match dstB C.N o.dst with
        | true => some (applyL σ (delD o.dst), ⟨[(.slot d, undefS)], delD o.dst, []⟩)
        | false => none
      | _ => none
    | _ => none

theorem stepR_sound {C : Ctx} {F : List Nat} {ds : List (Option Nat)} {o : Oper} {σ σ' : L} {x : Action} {K : L → Action → Prop} (h : stepR C F ds o σ = some (σ', x)) (hk : K σ' x) : stepK C ds o σ K := by
  unfold stepR at h
  unfold stepK RestK
  split at h
  · rename_i hg
    rw [hg]
    split at h
    · rename_i y hy
      simp only [Option.some.injEq, Prod.mk.injEq] at h
      obtain ⟨rfl, rfl⟩ := h
      exact ⟨_, actF_ok hy, hk⟩
    · simp at h
  · rename_i j b hg
    rw [hg]
    split at h
    · rename_i d hd
      simp only [hd]
      split at h
      · rename_i c hc
        simp only [hc]
        split at h
        · rename_i hcb
          split at h
          · rename_i y hy
            simp only [Option.some.injEq, Prod.mk.injEq] at h
            obtain ⟨rfl, rfl⟩ := h
            refine ⟨fun _ => ⟨_, actF_ok hy, hk⟩, fun he => ?_⟩
            subst he; simp at hcb
          · simp at h
        · rename_i hcb
          split at h
          · rename_i hdd
            simp only [Option.some.injEq, Prod.mk.injEq] at h
            obtain ⟨rfl, rfl⟩ := h
            refine ⟨fun he => ?_, fun _ => ⟨hdd, hk⟩⟩
            subst he; simp at hcb
          · simp at h
      · rename_i hc
        simp only [hc]
        split at h
        · rename_i hdd
          simp only [Option.some.injEq, Prod.mk.injEq] at h
          obtain ⟨rfl, rfl⟩ := h
          exact ⟨hdd, hk⟩
        · simp at h
      · simp at h
    · simp at h

structure RunRes where
  σ : L
  acts : List Action
  rest : List Oper

def runs (C : Ctx) (F : List Nat) (ds : List (Option Nat)) : List Oper → L → List Action → RunRes
  | [], σ, acts => ⟨σ, acts, []⟩
  | o :: rest, σ, acts => match stepR C F ds o σ with
    | some p => runs C F ds rest p.1 (acts ++ [p.2])
    | none => ⟨σ, acts, o :: rest⟩

theorem runs_go {C : Ctx} (F : List Nat) {ds : List (Option Nat)} {K : L → List Action → Prop} : ∀ {ops : List Oper} {σ : L} {acts : List Action} {r : RunRes}, runs C F ds ops σ acts = r → RunD C ds r.rest r.σ r.acts K → RunD C ds ops σ acts K
  | [], σ, acts, r, h, hk => by
    simp only [runs] at h
    subst h
    exact hk
  | o :: ops, σ, acts, r, h, hk => by
    simp only [runs] at h
    split at h
    · rename_i p hp
      unfold RunD
      exact stepR_sound (σ' := p.1) (x := p.2) (by rw [hp]) (runs_go F h hk)
    · subst h; exact hk

theorem runs_to {C : Ctx} (F : List Nat) {ds : List (Option Nat)} {K : L → List Action → Prop} {ops rest : List Oper} {σ σ' : L} {acts acts' : List Action} (h : runs C F ds ops σ acts = ⟨σ', acts', rest⟩) (hk : RunD C ds rest σ' acts' K) : RunD C ds ops σ acts K := runs_go F h hk

theorem runD_nil {C : Ctx} {ds : List (Option Nat)} {K : L → List Action → Prop} {σ : L} {acts : List Action} (h : K σ acts) : RunD C ds [] σ acts K := h

variable {C : Ctx} {Q : Exit → L → Prop} {σ : L}

theorem awp_txt {id : Nat} {ops : Array Oper} (h : RunD C (ops.toList.map (·.dst)) ops.toList σ [] fun σ' _ => Q .normal σ') : AWP C (.region id ops false) Q σ := by
  intro a w hr
  obtain ⟨l, σ', h1, h2, h3⟩ := runD_sound ops.toList 0 σ [] (fun k o hk => by simpa using hk) h
  exact wp_text (by rw [h1]; simp [List.range_eq_range']) h2 hr fun a' w' hr' => ⟨σ', h3, hr'⟩

theorem thenL_n {n : L → Prop} (h : n σ) : thenL n Q .normal σ := h
theorem thenL_r {n : L → Prop} (h : Q .ret σ) : thenL n Q .ret σ := h
theorem thenL_x {n : L → Prop} {i : Nat} (h : Q (.exit i) σ) : thenL n Q (.exit i) σ := h
theorem blockL_n {i : Nat} (h : Q .normal σ) : blockL i Q .normal σ := h
theorem blockL_r {i : Nat} (h : Q .ret σ) : blockL i Q .ret σ := h
theorem blockL_x {i : Nat} (h : Q .normal σ) : blockL i Q (.exit i) σ := by simpa [blockL] using h
theorem blockL_y {i j : Nat} (hn : Nat.beq j i = false) (h : Q (.exit j) σ) : blockL i Q (.exit j) σ := by
  have : j ≠ i := by rintro rfl; simp at hn
  simpa [blockL, this] using h

/-! ### 22. A call within a run -/
def guardR (C : Ctx) (ds : List (Option Nat)) (o : Oper) (σ : L) : Option (List (Loc × Cont)) :=
  match o.guard with
  | none => some []
  | some (j, b) => match ds[j]? with
    | some (some d) => match look σ (.slot d) with
      | some (.s (.v (.one (.t (.lit (.bool c)))))) => match c == b with
        | true => some [(.slot d, boolS c)]
        | false => none
      | _ => none
    | _ => none

theorem guardR_sound {ds : List (Option Nat)} {o : Oper} {gd : List (Loc × Cont)} {x : Action} {K : L → Action → Prop} (h : guardR C ds o σ = some gd) (hf : Fits C σ o x) (hk : K (applyL σ x.wr) ⟨gd ++ x.rd, x.wr, x.new⟩) : stepK C ds o σ K := by
  unfold guardR at h
  unfold stepK RestK
  split at h
  · rename_i hg
    rw [hg]
    injection h with h
    subst h
    exact ⟨x, hf, hk⟩
  · rename_i j b hg
    rw [hg]
    split at h
    · rename_i d hd
      simp only [hd]
      split at h
      · rename_i c hc
        simp only [hc]
        split at h
        · rename_i hcb
          injection h with h
          subst h
          refine ⟨fun _ => ⟨x, hf, hk⟩, fun he => ?_⟩
          subst he; simp at hcb
        · simp at h
      · simp at h
    · simp at h

def callR (C : Ctx) (ds : List (Option Nat)) (σ : L) (o : Oper) : Option (FuncId × List V1 × List (Loc × Cont)) :=
  match o.op with
  | .call c => match c.callee with
    | .value (.func f) => match dstB C.N o.dst with
      | true => match guardR C ds o σ with
        | some gd => match argsL (look σ) c.args.toList with
          | some (ys, rd) => some (f, ys, gd ++ rd)
          | none => none
        | none => none
      | false => none
    | _ => none
  | _ => none

theorem callR_spec {ds : List (Option Nat)} {o : Oper} {f : FuncId} {ys : List V1} {rd : List (Loc × Cont)} (h : callR C ds σ o = some (f, ys, rd)) : ∃ xs ts gd rd', o.op = .call { callee := .value (.func f), args := xs, argTypes := ts } ∧ dstB C.N o.dst = true ∧ guardR C ds o σ = some gd ∧ argsL (look σ) xs.toList = some (ys, rd') ∧ rd = gd ++ rd' := by
  unfold callR at h
  split at h
  · rename_i c ho
    split at h
    · rename_i f' hc
      split at h
      · rename_i hd
        split at h
        · rename_i gd hg
          split at h
          · rename_i ys' rd' ha
            simp only [Option.some.injEq, Prod.mk.injEq] at h
            obtain ⟨rfl, rfl, rfl⟩ := h
            refine ⟨c.args, c.argTypes, gd, rd', ?_, hd, hg, ha, rfl⟩
            rw [ho]
            cases c
            simp only at hc
            rw [hc]
          · simp at h
        · simp at h
      · simp at h
    · simp at h
  · simp at h

theorem runD_call {K : L → List Action → Prop} {ds : List (Option Nat)} {P : Program} {f : FuncId} {o : Oper} {ys : List V1} {rd : List (Loc × Cont)} {args : List PV} {res : PR} {rest : List Oper} {acts : List Action} (hp : Pure P f args res) (hc : callB P f = true) (hP : C.P = P)
    (hr : callR C ds σ o = some (f, ys, rd)) (hs : All2 SubV ys args)
    (k : RunD C ds rest (applyL σ (wrD o.dst res.up)) (acts ++ [⟨rd, wrD o.dst res.up, []⟩]) K) : RunD C ds (o :: rest) σ acts K := by
  subst hP
  obtain ⟨xs, ts, gd, rd', ho, hd, hg, ha, rfl⟩ := callR_spec hr
  unfold RunD
  exact guardR_sound hg (fits_call hc ho hd ha hs hp) k
end Go.AM
namespace Go.AM
theorem bool_beq_tt : (true == true) = true := rfl
theorem bool_beq_ff : (false == false) = true := rfl
theorem bool_beq_tf : (true == false) = false := rfl
theorem bool_beq_ft : (false == true) = false := rfl
end Go.AM
namespace Go.AM
theorem leaves_ok {P : Program} {rs : List ResultVar} {res : PR} {e : Exit} {σ : L} {ys : List V1} (he : e = .normal ∨ e = .ret) (h : resAll P (freezeAll σ (vecsOf σ)) rs = some ys) (hs : SubR (packL ys) res) : Leaves P rs res e σ := ⟨he, ys, h, hs⟩
end Go.AM
