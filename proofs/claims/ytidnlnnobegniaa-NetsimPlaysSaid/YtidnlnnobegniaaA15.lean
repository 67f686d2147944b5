import Derived.Test.YtidnlnnobegniaaA14
set_option linter.unusedVariables false
set_option linter.unusedSimpArgs false
namespace Go.AM
open Go.RowKit

/-! ### 18. One state implies another -/
def Imp (C : Ctx) (σ τ : L) : Prop := ∀ a w, Rel C (look σ) a w → Rel C (look τ) a w

variable {C : Ctx} {Q : Exit → L → Prop} {σ τ : L}

theorem Imp.refl (σ : L) : Imp C σ σ := fun _ _ h => h
theorem Imp.trans {υ : L} (h : Imp C σ τ) (h' : Imp C τ υ) : Imp C σ υ := fun a w hr => h' a w (h a w hr)

/-- Every fact of the first list is one of the second. -/
def AllIn : L → L → Prop
  | [], _ => True
  | (l, c) :: r, σ => look σ l = some c ∧ AllIn r σ

theorem AllIn.sub : ∀ {τ σ : L}, AllIn τ σ → subL τ σ
  | [], σ, _, l, c, h => by simp [look] at h
  | (l', c') :: r, σ, h, l, c, hl => by
    simp only [look] at hl
    split at hl
    · rename_i e; subst e; injection hl with hl; subst hl; exact h.1
    · exact AllIn.sub h.2 l c hl

theorem Imp.of_in (h : AllIn τ σ) : Imp C σ τ := fun a w hr => hr.weaken h.sub

theorem awp_imp {c : Code} (h : Imp C σ τ) (hc : AWP C c Q τ) : AWP C c Q σ := fun a w hr => hc a w (h a w hr)

theorem Imp.freeze (κ : Nat) {sz : Nat} {e : TypeId} {rows : List (List T)} (hv : look σ (.vec κ) = some (.r sz e rows)) : Imp C σ (freezeL κ (.sl sz rows) σ) := by
  intro a w ⟨G, ρ, hr⟩
  rw [look_freezeL]
  exact hr.freeze hv

/-! #### another name -/
def At.ren (κ κ' : Nat) : At → At
  | .ptr k off => .ptr (if k = κ then κ' else k) off
  | .row k => .row (if k = κ then κ' else k)
  | .vptr k sz i j => .vptr (if k = κ then κ' else k) sz i j
  | .obj k => .obj (if k = κ then κ' else k)
  | .part k sz lo n => .part (if k = κ then κ' else k) sz lo n
  | x => x
def V1.ren (κ κ' : Nat) : V1 → V1
  | .one x => .one (x.ren κ κ')
  | .agg cs => .agg (cs.map (At.ren κ κ'))
def SV.ren (κ κ' : Nat) : SV → SV
  | .v x => .v (x.ren κ κ')
  | .tup xs => .tup (xs.map (V1.ren κ κ'))
def Cont.ren (κ κ' : Nat) : Cont → Cont
  | .s x => .s (x.ren κ κ')
  | .c x => .c (x.ren κ κ')
  | .r sz e rows => .r sz e rows
  | .o I ks => .o I (ks.map fun k => if k = κ then κ' else k)
def Loc.ren (κ κ' : Nat) : Loc → Loc
  | .slot n => .slot n
  | .cell k j => .cell (if k = κ then κ' else k) j
  | .vec k => .vec (if k = κ then κ' else k)

def renL (κ κ' : Nat) : L → L
  | [] => []
  | (l, c) :: r => (l.ren κ κ', c.ren κ κ') :: renL κ κ' r

theorem AtRep.ren {G : Heap} {ρ : Places} {v : Value} {x : At} {κ κ' : Nat} (hx : κ' ∉ x.keys) (h : AtRep G ρ v x) : AtRep G (setX ρ κ' (ρ κ) (ρ.X κ)) v (x.ren κ κ') := by
  have key : ∀ k, k ≠ κ' → setX ρ κ' (ρ κ) (ρ.X κ) (if k = κ then κ' else k) = ρ k := by
    intro k hk
    split
    · rename_i e; rw [setX_same, e]
    · exact setX_ne _ _ _ hk
  cases x with
  | t x => exact h
  | tptr cs => exact h
  | ptr k off => simp only [At.keys, List.mem_singleton] at hx; obtain ⟨h1, h2⟩ := h; exact ⟨h1, by simp only [At.ren, key k (Ne.symm hx)]; exact h2⟩
  | row k => simp only [At.keys, List.mem_singleton] at hx; obtain ⟨h1, h2⟩ := h; exact ⟨h1, by simp only [At.ren, key k (Ne.symm hx)]; exact h2⟩
  | vptr k sz i j => simp only [At.keys, List.mem_singleton] at hx; obtain ⟨h1, h2⟩ := h; exact ⟨h1, by simp only [At.ren, key k (Ne.symm hx)]; exact h2⟩
  | obj k => simp only [At.keys, List.mem_singleton] at hx; obtain ⟨h1, h2⟩ := h; exact ⟨h1, by simp only [At.ren, key k (Ne.symm hx)]; exact h2⟩
  | slen n => exact h
  | part k sz lo n => simp only [At.keys, List.mem_singleton] at hx; obtain ⟨h1, h2⟩ := h; exact ⟨h1, by simp only [At.ren, key k (Ne.symm hx)]; exact h2⟩

theorem All2.map_right' {α β γ : Type} {R : α → β → Prop} {S : α → γ → Prop} {f : β → γ} {as : List α} {bs : List β} (h : All2 R as bs) (hf : ∀ a b, b ∈ bs → R a b → S a (f b)) : All2 S as (bs.map f) := by
  induction h with
  | nil => exact .nil
  | cons h t ih => exact .cons (hf _ _ (by simp) h) (ih fun a b hb => hf a b (by simp [hb]))

theorem V1Rep.ren {G : Heap} {ρ : Places} {v : Value} {x : V1} {κ κ' : Nat} (hx : κ' ∉ x.keys) (h : V1Rep G ρ v x) : V1Rep G (setX ρ κ' (ρ κ) (ρ.X κ)) v (x.ren κ κ') := by
  cases x with
  | one x => exact AtRep.ren hx h
  | agg cs =>
    obtain ⟨vs, e, h⟩ := h
    exact ⟨vs, e, h.map_right' fun a b hb hr => hr.ren fun hk => hx (by simp only [V1.keys, List.mem_flatMap]; exact ⟨b, hb, hk⟩)⟩
theorem SVRep.ren {G : Heap} {ρ : Places} {v : Value} {x : SV} {κ κ' : Nat} (hx : κ' ∉ x.keys) (h : SVRep G ρ v x) : SVRep G (setX ρ κ' (ρ κ) (ρ.X κ)) v (x.ren κ κ') := by
  cases x with
  | v x => exact V1Rep.ren hx h
  | tup xs =>
    obtain ⟨vs, e, h⟩ := h
    exact ⟨vs, e, h.map_right' fun a b hb hr => hr.ren fun hk => hx (by simp only [SV.keys, List.mem_flatMap]; exact ⟨b, hb, hk⟩)⟩

theorem look_renL {κ κ' : Nat} : ∀ {σ : L}, notIn κ' (keysL σ) = true → ∀ {l : Loc} {c : Cont}, look (renL κ κ' σ) l = some c → ∃ l0 c0, look σ l0 = some c0 ∧ l = l0.ren κ κ' ∧ c = c0.ren κ κ' ∧ l0.key ≠ some κ' ∧ κ' ∉ c0.keys
  | [], _, l, c, h => by simp [renL, look] at h
  | (l1, c1) :: r, hn, l, c, h => by
    have hn' := notIn_spec hn
    simp only [keysL, List.mem_append, not_or] at hn'
    have hinj : ∀ l2 : Loc, l2.key ≠ some κ' → l1.ren κ κ' = l2.ren κ κ' → l1 = l2 := by
      intro l2 h2 he
      have h1 : l1.key ≠ some κ' := fun e => hn'.1.1 (by simp [e])
      cases l1 <;> cases l2 <;> simp only [Loc.ren, Loc.key, Loc.slot.injEq, Loc.cell.injEq, Loc.vec.injEq, ne_eq, Option.some.injEq, reduceCtorEq] at he h1 h2 ⊢
      · exact he
      · obtain ⟨he, he2⟩ := he
        refine ⟨?_, he2⟩
        split at he <;> split at he <;> simp_all
      · split at he <;> split at he <;> simp_all
    simp only [renL, look] at h
    split at h
    · rename_i e
      injection h with h
      exact ⟨l1, c1, by simp [look], e, h.symm, fun e => hn'.1.1 (by simp [e]), hn'.1.2⟩
    · rename_i hne
      have hnr : notIn κ' (keysL r) = true := by
        have : ∀ (xs ys : List Nat), notIn κ' (xs ++ ys) = true → notIn κ' ys = true := by
          intro xs
          induction xs with
          | nil => intro ys h; exact h
          | cons x xs ih => intro ys h; simp only [List.cons_append, notIn] at h; split at h; (simp at h); exact ih ys h
        exact this _ _ hn
      obtain ⟨l0, c0, g1, g2, g3, g4, g5⟩ := look_renL hnr h
      refine ⟨l0, c0, ?_, g2, g3, g4, g5⟩
      simp only [look]
      rw [if_neg]
      · exact g1
      · rintro rfl; exact hne g2

theorem Imp.rename (κ κ' : Nat) (h : notIn κ' (keysL σ) = true) (hB : κ' < keyB) (hB0 : κ < keyB ∨ ∃ c, look σ (.vec κ) = some c) : Imp C σ (renL κ κ' σ) := by
  intro a w ⟨G, ρ, hr⟩
  have key : ∀ k, k ≠ κ' → setX ρ κ' (ρ κ) (ρ.X κ) (if k = κ then κ' else k) = ρ k := by
    intro k hk
    split
    · rename_i e; rw [setX_same, e]
    · exact setX_ne _ _ _ hk
  have keyX : ∀ k, k ≠ κ' → (setX ρ κ' (ρ κ) (ρ.X κ)).X (if k = κ then κ' else k) = ρ.X k := by
    intro k hk
    split
    · rename_i e; rw [setX_X_same, e]
    · exact setX_X_ne _ _ _ hk
  have hkey : ∀ (l0 : Loc) k, (l0.ren κ κ').key = some k → ∃ k0, l0.key = some k0 ∧ k = (if k0 = κ then κ' else k0) := by
    intro l0 k hk
    cases l0 <;> simp [Loc.ren, Loc.key] at hk ⊢ <;> exact hk.symm
  have howns : ∀ (l0 : Loc) k0 b, l0.key = some k0 → k0 ≠ κ' → Owns (setX ρ κ' (ρ κ) (ρ.X κ)) (l0.ren κ κ') (if k0 = κ then κ' else k0) b → Owns ρ l0 k0 b := by
    intro l0 k0 b hk0 hne ho
    rcases ho with ho | ⟨e, ho⟩
    · rw [key k0 hne] at ho; exact .inl ho
    · rw [keyX k0 hne] at ho
      refine .inr ⟨?_, ho⟩
      cases l0 with
      | slot n => simp [Loc.key] at hk0
      | cell a b => simp [Loc.ren] at e
      | vec a => simp [Loc.key] at hk0; rw [hk0]
  refine ⟨G, setX ρ κ' (ρ κ) (ρ.X κ), hr.os, hr.tape, hr.output, hr.size, hr.block, hr.gle, hr.g0, hr.gnew, hr.keep, fun k hk => by rw [setX_ne _ _ _ (by omega)]; exact hr.old k hk, hr.defers, hr.ntmps, ?_, ?_, ?_, ?_, ?_⟩
  · intro l c k b hl hk hb
    obtain ⟨l0, c0, g1, rfl, rfl, g4, g5⟩ := look_renL h hl
    obtain ⟨k0, hk0, rfl⟩ := hkey l0 k hk
    have hb := howns l0 k0 b hk0 (by rintro rfl; exact g4 hk0) hb
    obtain ⟨x1, x2, x3⟩ := hr.live l0 c0 k0 b g1 hk0 hb
    refine ⟨x1, x2, ?_⟩
    rcases x3 with ⟨x3, x4⟩ | x3
    · by_cases hkk : k0 = κ
      · subst hkk
        rcases hB0 with h0 | ⟨c1, h0⟩
        · omega
        · have := vec_only hr h0 g1 hk0
          subst this
          exact .inr (.inl ⟨_, x4⟩)
      rw [if_neg hkk]
      refine .inl ⟨x3, ?_⟩
      have : l0.ren κ κ' = l0 := by
        cases l0 <;> simp only [Loc.key, Option.some.injEq, reduceCtorEq] at hk0 <;> simp only [Loc.ren]
        · subst hk0; rw [if_neg hkk]
        · subst hk0; rw [if_neg hkk]
      rw [this]; exact x4
    · exact .inr x3
  · intro l c l' c' k k' b hl hl' hk hk' hb hb'
    obtain ⟨l0, c0, g1, rfl, rfl, g4, g5⟩ := look_renL h hl
    obtain ⟨l1, c1, f1, rfl, rfl, f4, f5⟩ := look_renL h hl'
    obtain ⟨k0, hk0, rfl⟩ := hkey l0 k hk
    obtain ⟨k1, hk1, rfl⟩ := hkey l1 k' hk'
    have hb := howns l0 k0 b hk0 (by rintro rfl; exact g4 hk0) hb
    have hb' := howns l1 k1 b hk1 (by rintro rfl; exact f4 hk1) hb'
    rw [hr.inj l0 c0 l1 c1 k0 k1 b g1 f1 hk0 hk1 hb hb']
  · intro n x hx
    obtain ⟨l0, c0, g1, g2, rfl, g4, g5⟩ := look_renL h hx
    cases l0 with
    | slot m =>
      simp only [Loc.ren, Loc.slot.injEq] at g2
      subst g2
      obtain ⟨v, y, e1, e2, e3⟩ := hr.slot _ _ g1
      subst e1
      exact ⟨v, y.ren κ κ', rfl, e2, e3.ren g5⟩
    | cell _ _ => simp [Loc.ren] at g2
    | vec _ => simp [Loc.ren] at g2
  · intro k j x hx
    obtain ⟨l0, c0, g1, g2, rfl, g4, g5⟩ := look_renL h hx
    cases l0 with
    | slot m => simp [Loc.ren] at g2
    | cell k0 j0 =>
      simp only [Loc.ren, Loc.cell.injEq] at g2
      obtain ⟨rfl, rfl⟩ := g2
      obtain ⟨y, b, u, cc, e, e1, e2, e3, e4, e5⟩ := hr.cell _ _ _ g1
      subst e1
      refine ⟨y.ren κ κ', b, u, cc, e, rfl, ?_, e3, e4, e5.ren g5⟩
      rw [key k0 (by rintro rfl; exact g4 rfl)]; exact e2
    | vec _ => simp [Loc.ren] at g2
  · intro k x hx
    obtain ⟨l0, c0, g1, g2, rfl, g4, g5⟩ := look_renL h hx
    cases l0 with
    | slot m => simp [Loc.ren] at g2
    | cell _ _ => simp [Loc.ren] at g2
    | vec k0 =>
      simp only [Loc.ren, Loc.vec.injEq] at g2
      subst g2
      have hk0 : k0 ≠ κ' := by rintro rfl; exact g4 rfl
      have h2 := hr.vec _ _ g1
      cases c0 with
      | s _ => exact h2.elim
      | c _ => exact h2.elim
      | r sz e rows =>
        show VecRep _ _ _ _ _ _
        rw [key k0 hk0]; exact h2
      | o I ks =>
        have e1 : (ks.map fun k => if k = κ then κ' else k).map (setX ρ κ' (ρ κ) (ρ.X κ)).v = ks.map ρ.v := by
          rw [List.map_map]
          exact List.map_congr_left fun k hk => key k (by rintro rfl; exact g5 hk)
        show Tag.rep _ _ _ _ _
        rw [key k0 hk0, keyX k0 hk0]
        refine (congrArg (Tag.rep I w (ρ.v k0) (ρ.X k0)) e1).mpr h2

/-- A nil slice as a row of its own without elements. -/
theorem Imp.adopt (n κ sz : Nat) (e : TypeId) (h : notIn κ (keysL σ) = true) (hB : κ < keyB) (hn : look σ (.slot n) = some (.s (sv (.slice none 0 0)))) : Imp C σ (put (put σ (.vec κ) (.r sz e [])) (.slot n) (.s (.v (.one (.row κ))))) := by
  intro a w ⟨G, ρ, hr⟩
  have hm : ¬ Mentions (look σ) κ := fun hm => notIn_spec h (keysL_mentions hm hB)
  have h1 := hr.newVec (κ := κ) hm (Grew.refl w) (v := .slice none 0 0) (sz := sz) (e := e) (rows := []) ⟨by simp, [], World.ownsRow_nil w 0 e sz, by simp⟩ (by simp [blk])
  obtain ⟨v, y, e1, e2, e3⟩ := hr.slot n _ hn
  injection e1 with e1
  subst e1
  have := e3.2.lit_inv
  subst this
  have hlt : n < a.tmps.size := (Array.getElem?_eq_some_iff.1 e2).1
  have h2 := h1.put (d := n) (by rw [← hr.ntmps]; exact hlt) (v := .slice none 0 0) (y := .v (.one (.row κ))) ⟨rfl, (setAt_same _ _ _).symm, ⟨none, 0, 0, setAt_same _ _ _⟩⟩
  have h3 : a.put (some n) (.slice none 0 0) = a := by
    cases a with
    | mk tmps defers =>
      simp only [Act.put, Act.mk.injEq, and_true]
      simp at e2 hlt
      apply Array.ext
      · simp
      · intro i hi1 hi2
        rw [Array.getElem_setIfInBounds]
        split
        · rename_i he; subst he; rw [Array.getElem?_eq_getElem hlt] at e2; injection e2 with e2; exact e2.symm
        · rfl
  rw [h3] at h2
  exact ⟨G, setAt ρ κ (.slice none 0 0), by rw [look_put, look_put]; exact h2⟩

/-- A nil slice as a tree without elements. -/
theorem Imp.coe (n sz : Nat) (hn : look σ (.slot n) = some (.s (sv (.slice none 0 0)))) : Imp C σ (put σ (.slot n) (.s (.v (.one (.t (.sl sz [])))))) := by
  intro a w ⟨G, ρ, hr⟩
  obtain ⟨v, y, e1, e2, e3⟩ := hr.slot n _ hn
  injection e1 with e1
  subst e1
  have := e3.2.lit_inv
  subst this
  have hlt : n < a.tmps.size := (Array.getElem?_eq_some_iff.1 e2).1
  have h2 := hr.put (d := n) (by rw [← hr.ntmps]; exact hlt) (v := .slice none 0 0) (y := .v (.one (.t (.sl sz [])))) ⟨rfl, VRep.nil G sz⟩
  have h3 : a.put (some n) (.slice none 0 0) = a := by
    cases a with
    | mk tmps defers =>
      simp only [Act.put, Act.mk.injEq, and_true]
      simp at e2 hlt
      apply Array.ext
      · simp
      · intro i hi1 hi2
        rw [Array.getElem_setIfInBounds]
        split
        · rename_i he; subst he; rw [Array.getElem?_eq_getElem hlt] at e2; injection e2 with e2; exact e2.symm
        · rfl
  rw [h3] at h2
  exact ⟨G, ρ, by rw [look_put]; exact h2⟩

/-! ### 19. Loops -/
theorem awp_loop {c : Code} {α : Type} (st : α → L) (φ : α → Prop) (μ : α → Nat) (x0 : α) (h0 : φ x0) (hs : Imp C σ (st x0))
    (round : ∀ x, φ x → AWP C c (thenL (fun σ' => ∃ x', φ x' ∧ μ x' < μ x ∧ Imp C σ' (st x')) Q) (st x)) : AWP C (.loop c) Q σ := by
  intro a w hr
  have key : ∀ (n : Nat) (x : α) (a : Act) (w : World), μ x = n → φ x → Rel C (look (st x)) a w → ∀ (b : Frame) (k : List Item) (cs : List Frame),
      ∃ e a' w', (∃ σ', Q e σ' ∧ Rel C (look σ') a' w') ∧ Arrives C.P (lone (b.at a (.code c :: .inLoop c :: k)) cs w) b k cs e a' w' := by
    intro n
    induction n using Nat.strongRecOn with
    | _ n ih =>
      intro x a w hn hx hr b k cs
      obtain ⟨e, a₁, w₁, ⟨σ', hq, hr'⟩, harr⟩ := round x hx a w hr b (.inLoop c :: k) cs
      cases e with
      | normal =>
        obtain ⟨x', hx', hlt, himp⟩ := hq
        obtain ⟨e₂, a₂, w₂, hq₂, harr₂⟩ := ih (μ x') (hn ▸ hlt) x' a₁ w₁ rfl hx' (himp _ _ hr') b k cs
        exact ⟨e₂, a₂, w₂, hq₂, .of_steps (Steps.trans harr (.one step_inLoop)) harr₂⟩
      | exit id => exact ⟨_, a₁, w₁, ⟨σ', hq, hr'⟩, .pass (x := .inLoop c) rfl (fun _ _ => .inl (by simp)) harr⟩
      | goto l => exact ⟨_, a₁, w₁, ⟨σ', hq, hr'⟩, .pass (x := .inLoop c) rfl (fun _ _ => .inl (by simp)) harr⟩
      | ret => exact ⟨_, a₁, w₁, ⟨σ', hq, hr'⟩, .pass (x := .inLoop c) rfl (fun _ _ => .inl (by simp)) harr⟩
      | panic ch => exact ⟨_, a₁, w₁, ⟨σ', hq, hr'⟩, .pass (x := .inLoop c) rfl (fun _ _ => .inl (by simp)) harr⟩
      | outgrown => exact ⟨_, a₁, w₁, ⟨σ', hq, hr'⟩, .pass (x := .inLoop c) rfl (fun _ _ => .inl (by simp)) harr⟩
  intro b k cs
  obtain ⟨e, a', w', hq, harr⟩ := key _ x0 a w rfl h0 (hs a w hr) b k cs
  exact ⟨e, a', w', hq, .of_steps (.one step_loop) harr⟩

/-! ### 20. Calls -/
def callB (P : Program) (f : FuncId) : Bool :=
  match P.funcs[f]? with
  | some fn => fn.name != "runtime.NumGoroutine" && fn.body.isSome
  | none => false

def argsL (g : State) : List Operand → Option (List V1 × List (Loc × Cont))
  | [] => some ([], [])
  | x :: xs => match ev g x with
    | some (.v y) => match argsL g xs with
      | some (ys, rd) => some (y :: ys, evr g x ++ rd)
      | none => none
    | _ => none

theorem argsL_rep {C : Ctx} {G : Heap} {ρ ρ' : Places} {s : State} {a : Act} {w : World} (hrel : RelG C G ρ s a w) {g : State} : ∀ {xs : List Operand} {ys : List V1} {rd : List (Loc × Cont)} {args : List PV}, argsL g xs = some (ys, rd) → Reads rd s → All2 SubV ys args → All2 (fun v (x : PV) => V1Rep G ρ' v x.up) (xs.map a.eval) args
  | [], ys, rd, args, h, _, hs => by simp [argsL] at h; obtain ⟨rfl, rfl⟩ := h; cases hs; exact .nil
  | x :: xs, ys, rd, args, h, hr, hs => by
    simp only [argsL] at h
    split at h
    · rename_i y hy
      split at h
      · rename_i ys' rd' h2
        simp at h
        obtain ⟨rfl, rfl⟩ := h
        obtain ⟨r1, r2⟩ := Reads.app.1 hr
        cases hs with
        | cons h3 t => exact .cons (h3.rep (ev_rep hy r1 hrel)) (argsL_rep hrel h2 r2 t)
      · simp at h
    · simp at h

theorem argsL_reads {g : State} : ∀ {xs : List Operand} {ys : List V1} {rd : List (Loc × Cont)}, argsL g xs = some (ys, rd) → Reads rd g
  | [], ys, rd, h => by simp [argsL] at h; obtain ⟨rfl, rfl⟩ := h; exact Reads.nil
  | x :: xs, ys, rd, h => by
    simp only [argsL] at h
    split at h
    · split at h
      · rename_i ys' rd' h2
        simp at h
        obtain ⟨rfl, rfl⟩ := h
        exact r_app (evr_self _ _) (argsL_reads h2)
      · simp at h
    · simp at h

theorem exec_call {P : Program} {f : FuncId} (hc : callB P f = true) {o : Oper} {xs : Array Operand} {ts : Array TypeId} (ho : o.op = .call { callee := .value (.func f), args := xs, argTypes := ts }) (a : Act) (w : World) :
    (execOp a.eval o).run P w = .ok (.enter f (xs.map a.eval)) w := by
  unfold callB at hc
  split at hc
  · rename_i fn hf
    simp only [Bool.and_eq_true, bne_iff_ne, ne_eq] at hc
    obtain ⟨c, hb⟩ := Option.isSome_iff_exists.1 hc.2
    simp [execOp, ho, resolve, Deferred.ofValue, Act.eval, invoke, callFunc, hf, hc.1, hb]
  · simp at hc

theorem fits_call {f : FuncId} {o : Oper} {xs : Array Operand} {ts : Array TypeId} {ys : List V1} {rd : List (Loc × Cont)} {args : List PV} {res : PR} (hc : callB C.P f = true) (ho : o.op = .call { callee := .value (.func f), args := xs, argTypes := ts }) (hd : dstB C.N o.dst = true)
    (ha : argsL (look σ) xs.toList = some (ys, rd)) (hs : All2 SubV ys args) (hp : Pure C.P f args res) : Fits C σ o ⟨rd, wrD o.dst res.up, []⟩ := by
  refine fits_pure ?_ (argsL_reads ha)
  intro s a w K Q ⟨G, ρ, hrel⟩ hh hf hK
  have hargs := argsL_rep (ρ' := noPlaces) hrel ha hh hs
  unfold Oper.wp
  rw [exec_call hc ho]
  simp only [Oper.upon]
  have he : (xs.map a.eval) = (xs.toList.map a.eval).toArray := by apply Array.ext'; simp
  rw [he]
  refine (hp G w _ hrel.gle hargs).mono ?_
  rintro e w' ⟨v, G', rfl, h1, h2, h3, h4, h5⟩
  refine hK _ _ ?_
  have hrel' := hrel.extend h5 h3 h2 h4 (ρ' := ρ) (fun _ _ => rfl) fun _ _ => rfl
  have hv : SVRep G' ρ v res.up := h1.move (fun _ _ h => h) fun κ hκ => by rw [res.up_keys] at hκ; simp at hκ
  cases hdst : o.dst with
  | none => exact ⟨G', ρ, hrel'⟩
  | some d => exact ⟨G', ρ, hrel'.put (dstB_ok hd d hdst) hv⟩

end Go.AM
