import Derived.Test.YtidnlnnobegniaaA18
set_option linter.unusedVariables false
set_option linter.unusedSimpArgs false
namespace Go.AM
open Go.RowKit

/-! ### 26. Functions that change what they are handed -/
/-- Another name for each key. -/
def rn : List (Nat × Nat) → Nat → Nat
  | [], κ => κ
  | (a, b) :: r, κ => if κ = a then b else rn r κ

def At.rn (R : List (Nat × Nat)) : At → At
  | .ptr k off => .ptr (AM.rn R k) off
  | .row k => .row (AM.rn R k)
  | .vptr k sz i j => .vptr (AM.rn R k) sz i j
  | .t x => .t x
  | .tptr cs => .tptr cs
  | .obj k => .obj (AM.rn R k)
  | .slen n => .slen n
  | .part k sz lo n => .part (AM.rn R k) sz lo n
def V1.rn (R : List (Nat × Nat)) : V1 → V1
  | .one x => .one (x.rn R)
  | .agg cs => .agg (cs.map (At.rn R))
def SV.rn (R : List (Nat × Nat)) : SV → SV
  | .v x => .v (x.rn R)
  | .tup xs => .tup (xs.map (V1.rn R))
def Cont.rn (R : List (Nat × Nat)) : Cont → Cont
  | .s x => .s (x.rn R)
  | .c x => .c (x.rn R)
  | .r sz e rows => .r sz e rows
  | .o I ks => .o I (ks.map (AM.rn R))
def Loc.rn (R : List (Nat × Nat)) : Loc → Loc
  | .slot n => .slot n
  | .cell k j => .cell (AM.rn R k) j
  | .vec k => .vec (AM.rn R k)

theorem Loc.rn_key (R : List (Nat × Nat)) (l : Loc) : (l.rn R).key = l.key.map (AM.rn R) := by cases l <;> rfl

theorem AtRep.rn {G : Heap} {ρ ρ' : Places} {R : List (Nat × Nat)} {v : Value} {x : At} (hp : ∀ κ, κ ∈ x.keys → ρ' (AM.rn R κ) = ρ κ) : AtRep G ρ v x ↔ AtRep G ρ' v (x.rn R) := by
  cases x with
  | t x => exact Iff.rfl
  | tptr cs => exact Iff.rfl
  | ptr k off => simp only [AtRep, At.rn, hp k (by simp [At.keys])]
  | row k => simp only [AtRep, At.rn, hp k (by simp [At.keys])]
  | vptr k sz i j => simp only [AtRep, At.rn, hp k (by simp [At.keys])]
  | obj k => simp only [AtRep, At.rn, hp k (by simp [At.keys])]
  | slen n => exact Iff.rfl
  | part k sz lo n => simp only [AtRep, At.rn, hp k (by simp [At.keys])]

theorem All2.map_iff {α β : Type} {R : α → β → Prop} {S : α → β → Prop} {f : β → β} : ∀ {as : List α} {bs : List β}, (∀ a b, b ∈ bs → (R a b ↔ S a (f b))) → (All2 R as bs ↔ All2 S as (bs.map f))
  | as, [], _ => ⟨fun h => by cases h; exact .nil, fun h => by cases h; exact .nil⟩
  | as, b :: bs, h => by
    have ih := fun as' => All2.map_iff (as := as') (bs := bs) (R := R) (S := S) (f := f) fun a b hb => h a b (by simp [hb])
    constructor
    · intro h1
      cases h1 with
      | cons h2 t => exact .cons ((h _ b (by simp)).1 h2) ((ih _).1 t)
    · intro h1
      cases h1 with
      | cons h2 t => exact .cons ((h _ b (by simp)).2 h2) ((ih _).2 t)

theorem V1Rep.rn {G : Heap} {ρ ρ' : Places} {R : List (Nat × Nat)} {v : Value} {x : V1} (hp : ∀ κ, κ ∈ x.keys → ρ' (AM.rn R κ) = ρ κ) : V1Rep G ρ v x ↔ V1Rep G ρ' v (x.rn R) := by
  cases x with
  | one x => exact AtRep.rn hp
  | agg cs =>
    simp only [V1Rep, V1.rn]
    refine exists_congr fun vs => and_congr_right fun _ => All2.map_iff fun a b hb => AtRep.rn fun κ hκ => hp κ ?_
    simp only [V1.keys, List.mem_flatMap]
    exact ⟨b, hb, hκ⟩

theorem SVRep.rn {G : Heap} {ρ ρ' : Places} {R : List (Nat × Nat)} {v : Value} {x : SV} (hp : ∀ κ, κ ∈ x.keys → ρ' (AM.rn R κ) = ρ κ) : SVRep G ρ v x ↔ SVRep G ρ' v (x.rn R) := by
  cases x with
  | v x => exact V1Rep.rn hp
  | tup xs =>
    simp only [SVRep, SV.rn]
    refine exists_congr fun vs => and_congr_right fun _ => All2.map_iff fun a b hb => V1Rep.rn fun κ hκ => hp κ ?_
    simp only [SV.keys, List.mem_flatMap]
    exact ⟨b, hb, hκ⟩

def doc (P : Program) (w : World) (G : Heap) (ρ : Places) (pre : L) (N : Nat) : Ctx := ⟨P, w, G, fun l => ∃ c, look pre l = some c, ρ, N⟩
def noAct : Act := { tmps := #[], defers := [] }

/-- What a call comes to: what it is handed ahead and behind, what it brings. -/
def Does (P : Program) (f : FuncId) (args : List V1) (pre : L) (res : SV) (post : L) : Prop :=
  ∀ (G : Heap) (ρ : Places) (w : World) (vals : List Value), RelG (doc P w G ρ pre 0) G ρ (look pre) noAct w → All2 (V1Rep G ρ) vals args →
    Calls P f vals.toArray w fun en w' => ∃ v, en = .returned v ∧ ∃ G' ρ', SVRep G' ρ' v res ∧ RelG (doc P w G ρ pre 0) G' ρ' (look post) noAct w'

/-! #### coercion -/
inductive SubA : At → At → Prop where
  | same (x : At) : SubA x x
  | nil (sz : Nat) : SubA (.t (.lit (.slice none 0 0))) (.t (.sl sz []))
  | ptr (cs : List T) : SubA (.tptr cs) (.t (.ptr cs))
inductive SubW : V1 → V1 → Prop where
  | one {y x} (h : SubA y x) : SubW (.one y) (.one x)
  | agg {ys xs} (h : All2 SubA ys xs) : SubW (.agg ys) (.agg xs)
inductive SubS : SV → SV → Prop where
  | v {y x} (h : SubW y x) : SubS (.v y) (.v x)
  | tup {ys xs} (h : All2 SubW ys xs) : SubS (.tup ys) (.tup xs)

theorem SubA.rep {G : Heap} {ρ : Places} {v : Value} {y x : At} (h : SubA y x) (hv : AtRep G ρ v y) : AtRep G ρ v x := by
  cases h with
  | same x => exact hv
  | nil sz =>
    have := hv.2.lit_inv
    subst this
    exact ⟨rfl, VRep.nil G sz⟩
  | ptr cs => exact ⟨hv.1, ptr_rep hv.2⟩

theorem All2.imp2 {α β γ : Type} {R : α → β → Prop} {S : β → γ → Prop} {Q : α → γ → Prop} (hf : ∀ a b c, R a b → S b c → Q a c) : ∀ {as : List α} {bs : List β} {cs : List γ}, All2 R as bs → All2 S bs cs → All2 Q as cs
  | _, _, _, .nil, .nil => .nil
  | _, _, _, .cons h t, .cons h' t' => .cons (hf _ _ _ h h') (All2.imp2 hf t t')

theorem SubW.rep {G : Heap} {ρ : Places} {v : Value} {y x : V1} (h : SubW y x) (hv : V1Rep G ρ v y) : V1Rep G ρ v x := by
  cases h with
  | one h => exact h.rep hv
  | agg h =>
    obtain ⟨vs, e, hv⟩ := hv
    exact ⟨vs, e, All2.imp2 (R := AtRep G ρ) (S := SubA) (fun _ _ _ h1 h2 => SubA.rep h2 h1) hv h⟩

theorem SubS.rep {G : Heap} {ρ : Places} {v : Value} {y x : SV} (h : SubS y x) (hv : SVRep G ρ v y) : SVRep G ρ v x := by
  cases h with
  | v h => exact h.rep hv
  | tup h =>
    obtain ⟨vs, e, hv⟩ := hv
    exact ⟨vs, e, All2.imp2 (R := V1Rep G ρ) (S := SubW) (fun _ _ _ h1 h2 => SubW.rep h2 h1) hv h⟩

/-! #### a body -/
def entryV : Nat → List V1 → L
  | _, [] => []
  | n, x :: xs => (.slot n, .s (.v x)) :: entryV (n + 1) xs

theorem look_entryV : ∀ (xs : List V1) (n : Nat) (l : Loc) (c : Cont), look (entryV n xs) l = some c → ∃ i x, l = .slot (n + i) ∧ xs[i]? = some x ∧ c = .s (.v x)
  | [], n, l, c, h => by simp [entryV, look] at h
  | x :: xs, n, l, c, h => by
    simp only [entryV, look] at h
    split at h
    · rename_i e; subst e; injection h with h; exact ⟨0, x, rfl, rfl, h.symm⟩
    · obtain ⟨i, y, h1, h2, h3⟩ := look_entryV xs (n + 1) l c h
      exact ⟨i + 1, y, by rw [h1, show n + 1 + i = n + (i + 1) by omega], by simpa using h2, h3⟩

theorem look_append (σ τ : L) (l : Loc) : look (σ ++ τ) l = (look σ l).or (look τ l) := by
  induction σ with
  | nil => simp [look]
  | cons p r ih =>
    obtain ⟨l', c'⟩ := p
    simp only [List.cons_append, look]
    split <;> simp_all

def noSlots : L → Bool
  | [] => true
  | (.slot _, _) :: _ => false
  | _ :: r => noSlots r
theorem noSlots_spec : ∀ {σ : L}, noSlots σ = true → ∀ n, look σ (.slot n) = none
  | [], _, n => rfl
  | (.slot _, _) :: _, h, n => by simp [noSlots] at h
  | (.cell _ _, _) :: r, h, n => by simp only [noSlots] at h; simp [look, noSlots_spec h n]
  | (.vec _, _) :: r, h, n => by simp only [noSlots] at h; simp [look, noSlots_spec h n]

/-- What a body leaves. -/
def LeavesD (C : Ctx) (rs : List ResultVar) (res : SV) (post : L) (e : Exit) (σ : L) : Prop :=
  (e = .normal ∨ e = .ret) ∧ ∃ τ, Imp C σ τ ∧ ∃ ys, resAll C.P τ rs = some ys ∧ SubS (packL ys) res ∧ AllIn post τ

theorem leavesD_ok {C : Ctx} {rs : List ResultVar} {res : SV} {post : L} {e : Exit} {σ τ : L} {ys : List V1} (he : e = .normal ∨ e = .ret) (hi : Imp C σ τ) (h : resAll C.P τ rs = some ys) (hs : SubS (packL ys) res) (hp : AllIn post τ) : LeavesD C rs res post e σ := ⟨he, τ, hi, ys, h, hs, hp⟩

theorem does_of_body {P : Program} {f : FuncId} {fn : Func} {c : Code} {args : List V1} {pre post : L} {res : SV} (hf : P.funcs[f]? = some fn) (hb : fn.body = some c) (hN : args.length ≤ fn.ntmps) (hps : noSlots pre = true) (hpo : noSlots post = true)
    (h : ∀ w0 G0 ρ0, AWP (doc P w0 G0 ρ0 pre fn.ntmps) c (LeavesD (doc P w0 G0 ρ0 pre fn.ntmps) fn.results.toList res post) (entryV 0 args ++ pre)) : Does P f args pre res post := by
  intro G ρ w vals hrel0 hvals
  refine calls_of_wp hf hb ?_
  have hvl := hvals.length
  have hrel : Rel (doc P w G ρ pre fn.ntmps) (look (entryV 0 args ++ pre)) { tmps := vals.toArray ++ Array.replicate (fn.ntmps - vals.toArray.size) undef, defers := [] } w := by
    have hkey : ∀ l c, look (entryV 0 args ++ pre) l = some c → (∀ n, l ≠ .slot n) → look pre l = some c := by
      intro l c hl hn
      rw [look_append] at hl
      cases h1 : look (entryV 0 args) l with
      | none => rw [h1] at hl; simpa using hl
      | some c' =>
        obtain ⟨i, x, rfl, _⟩ := look_entryV _ _ _ _ h1
        exact absurd rfl (hn _)
    refine ⟨G, ρ, hrel0.os, hrel0.tape, hrel0.output, hrel0.size, hrel0.block, hrel0.gle, hrel0.g0, hrel0.gnew, hrel0.keep, hrel0.old, rfl, ?_, ?_, ?_, ?_, ?_, ?_⟩
    · simp [doc]; omega
    · intro l c κ b hl hk hb
      exact hrel0.live l c κ b (hkey l c hl (by rintro n rfl; simp [Loc.key] at hk)) hk hb
    · intro l c l' c' κ κ' b hl hl' hk hk'
      exact hrel0.inj l c l' c' κ κ' b (hkey l c hl (by rintro n rfl; simp [Loc.key] at hk)) (hkey l' c' hl' (by rintro n rfl; simp [Loc.key] at hk')) hk hk'
    · intro n x hx
      rw [look_append, noSlots_spec hps n] at hx
      simp only [Option.or_none] at hx
      obtain ⟨i, y, h1, h2, h3⟩ := look_entryV _ _ _ _ hx
      simp at h1
      subst h1
      obtain ⟨v, h4, h5⟩ := hvals.get h2
      refine ⟨v, _, h3, ?_, h5⟩
      have hi : n < vals.length := (List.getElem?_eq_some_iff.1 h4).1
      rw [Array.getElem?_append_left (by simpa using hi)]
      simpa using h4
    · intro κ k x hx
      exact hrel0.cell κ k x (hkey _ _ hx (by simp))
    · intro κ x hx
      exact hrel0.vec κ x (hkey _ _ hx (by simp))
  refine wp_mono (h w G ρ _ w hrel) ?_
  rintro e a' w' ⟨σ', ⟨he, τ, hi, ys, hys, hsub, hpost⟩, hr'⟩
  obtain ⟨G1, ρ1, hr1⟩ := hi _ _ hr'
  obtain ⟨v, h1, h2⟩ := run_results hr1 hys
  have hps' := hpost.sub
  have hrp : RelG (doc P w G ρ pre 0) G1 ρ1 (look post) noAct w' := by
    refine ⟨hr1.os, hr1.tape, hr1.output, hr1.size, hr1.block, hr1.gle, hr1.g0, hr1.gnew, hr1.keep, hr1.old, rfl, rfl, ?_, ?_, ?_, ?_, ?_⟩
    · intro l c κ b hl; exact hr1.live l c κ b (hps' _ _ hl)
    · intro l c l' c' κ κ' b hl hl'; exact hr1.inj l c l' c' κ κ' b (hps' _ _ hl) (hps' _ _ hl')
    · intro n x hx; rw [noSlots_spec hpo n] at hx; simp at hx
    · intro κ k x hx; exact hr1.cell κ k x (hps' _ _ hx)
    · intro κ x hx; exact hr1.vec κ x (hps' _ _ hx)
  rcases he with rfl | rfl
  · exact ⟨hr'.choose_spec.choose_spec.defers, v, h1, v, rfl, G1, ρ1, hsub.rep h2, hrp⟩
  · exact ⟨hr'.choose_spec.choose_spec.defers, v, h1, v, rfl, G1, ρ1, hsub.rep h2, hrp⟩

/-! #### a call of such a function -/
def ren (R : List (Nat × Nat)) : L → L
  | [] => []
  | (l, c) :: r => (l.rn R, c.rn R) :: ren R r
def dels : L → List (Loc × Option Cont)
  | [] => []
  | (l, _) :: r => (l, none) :: dels r
def adds : L → List (Loc × Option Cont)
  | [] => []
  | (l, c) :: r => (l, some c) :: adds r

theorem ren_mem {R : List (Nat × Nat)} {l : Loc} {c : Cont} : ∀ {σ : L}, (l, c) ∈ ren R σ → ∃ l0 c0, (l0, c0) ∈ σ ∧ l = l0.rn R ∧ c = c0.rn R
  | [], h => by simp [ren] at h
  | (l1, c1) :: r, h => by
    simp only [ren, List.mem_cons, Prod.mk.injEq] at h
    rcases h with ⟨rfl, rfl⟩ | h
    · exact ⟨l1, c1, by simp, rfl, rfl⟩
    · obtain ⟨l0, c0, h1, h2⟩ := ren_mem h
      exact ⟨l0, c0, by simp [h1], h2⟩
theorem mem_ren {R : List (Nat × Nat)} {l : Loc} {c : Cont} : ∀ {σ : L}, (l, c) ∈ σ → (l.rn R, c.rn R) ∈ ren R σ
  | [], h => by simp at h
  | (l1, c1) :: r, h => by
    simp only [List.mem_cons, Prod.mk.injEq] at h
    simp only [ren, List.mem_cons, Prod.mk.injEq]
    rcases h with ⟨rfl, rfl⟩ | h
    · exact .inl ⟨rfl, rfl⟩
    · exact .inr (mem_ren h)
theorem look_mem {l : Loc} {c : Cont} : ∀ {σ : L}, look σ l = some c → (l, c) ∈ σ
  | [], h => by simp [look] at h
  | (l1, c1) :: r, h => by
    simp only [look] at h
    split at h
    · rename_i e; subst e; injection h with h; subst h; simp
    · simp [look_mem h]
theorem mem_look {l : Loc} {c : Cont} : ∀ {σ : L}, (l, c) ∈ σ → ∃ c', look σ l = some c'
  | [], h => by simp at h
  | (l1, c1) :: r, h => by
    simp only [look]
    split
    · exact ⟨_, rfl⟩
    · rename_i hne
      simp only [List.mem_cons, Prod.mk.injEq] at h
      rcases h with ⟨rfl, rfl⟩ | h
      · exact absurd rfl hne
      · exact mem_look h

theorem applys_adds {l : Loc} {c : Cont} : ∀ {σ : L} {s : State}, applys s (adds σ) l = some c → (l, c) ∈ σ ∨ ((∀ c', (l, c') ∉ σ) ∧ s l = some c)
  | [], s, h => .inr ⟨by simp, h⟩
  | (l1, c1) :: r, s, h => by
    rw [adds, applys_cons] at h
    rcases applys_adds h with h1 | ⟨h1, h2⟩
    · exact .inl (by simp [h1])
    · by_cases e : l = l1
      · subst e; rw [upd_same] at h2; injection h2 with h2; subst h2; exact .inl (by simp)
      · rw [upd_ne _ _ e] at h2
        exact .inr ⟨fun c' hc => by
          simp only [List.mem_cons, Prod.mk.injEq] at hc
          rcases hc with ⟨rfl, _⟩ | hc
          · exact e rfl
          · exact h1 _ hc, h2⟩
theorem applys_dels {l : Loc} {c : Cont} : ∀ {σ : L} {s : State}, applys s (dels σ) l = some c → (∀ c', (l, c') ∉ σ) ∧ s l = some c
  | [], s, h => ⟨by simp, h⟩
  | (l1, c1) :: r, s, h => by
    rw [dels, applys_cons] at h
    obtain ⟨h1, h2⟩ := applys_dels h
    by_cases e : l = l1
    · subst e; rw [upd_same] at h2; simp at h2
    · rw [upd_ne _ _ e] at h2
      exact ⟨fun c' hc => by
        simp only [List.mem_cons, Prod.mk.injEq] at hc
        rcases hc with ⟨rfl, _⟩ | hc
        · exact e rfl
        · exact h1 _ hc, h2⟩

/-- Places for new keys. -/
def setAll (R : List (Nat × Nat)) (ρ' : Places) : List Nat → Places → Places
  | [], ρ => ρ
  | n :: r, ρ => setAll R ρ' r (setAt ρ (rn R n) (ρ' n))
theorem setAll_ne {R : List (Nat × Nat)} {ρ' : Places} {κ : Nat} : ∀ {nk : List Nat} {ρ : Places}, (∀ n, n ∈ nk → rn R n ≠ κ) → setAll R ρ' nk ρ κ = ρ κ
  | [], ρ, _ => rfl
  | n :: r, ρ, h => by
    rw [setAll, setAll_ne fun m hm => h m (by simp [hm])]
    exact setAt_ne _ _ (Ne.symm (h n (by simp)))
theorem setAll_at {R : List (Nat × Nat)} {ρ' : Places} {n : Nat} : ∀ {nk : List Nat} {ρ : Places}, n ∈ nk → (∀ m, m ∈ nk → rn R m = rn R n → m = n) → setAll R ρ' nk ρ (rn R n) = ρ' n
  | [], ρ, h, _ => by simp at h
  | m :: r, ρ, h, hi => by
    by_cases hr : n ∈ r
    · rw [setAll, setAll_at hr fun k hk => hi k (by simp [hk])]
    · have hmn : n = m := by simpa [hr] using h
      subst hmn
      rw [setAll, setAll_ne, setAt_same]
      intro k hk e
      exact hr (by rw [← hi k (by simp [hk]) e]; exact hk)

/-- The keys that a list speaks of at its left sides. -/
def locKeys : L → List Nat
  | [] => []
  | (l, _) :: r => l.key.toList ++ locKeys r
theorem locKeys_mem {l : Loc} {c : Cont} {κ : Nat} (hk : l.key = some κ) : ∀ {σ : L}, (l, c) ∈ σ → κ ∈ locKeys σ
  | [], h => by simp at h
  | (l1, c1) :: r, h => by
    simp only [List.mem_cons, Prod.mk.injEq] at h
    simp only [locKeys, List.mem_append]
    rcases h with ⟨rfl, rfl⟩ | h
    · exact .inl (by simp [hk])
    · exact .inr (locKeys_mem hk h)
theorem keysL_mem {l : Loc} {c : Cont} {κ : Nat} (hk : l.key = some κ ∨ κ ∈ c.keys) : ∀ {σ : L}, (l, c) ∈ σ → κ ∈ keysL σ
  | [], h => by simp at h
  | (l1, c1) :: r, h => by
    simp only [List.mem_cons, Prod.mk.injEq] at h
    simp only [keysL, List.mem_append]
    rcases h with ⟨rfl, rfl⟩ | h
    · rcases hk with hk | hk
      · exact .inl (.inl (by simp [hk]))
      · exact .inl (.inr hk)
    · exact .inr (keysL_mem hk h)

/-- Two names of a list are never made one. -/
def injOn (R : List (Nat × Nat)) : List Nat → List Nat → Bool
  | [], _ => true
  | x :: r, ys => (ys.all fun y => decide (rn R x = rn R y → x = y)) && injOn R r ys
theorem injOn_spec {R : List (Nat × Nat)} {ys : List Nat} : ∀ {xs : List Nat}, injOn R xs ys = true → ∀ x y, x ∈ xs → y ∈ ys → rn R x = rn R y → x = y
  | [], _, x, y, hx, _, _ => by simp at hx
  | x0 :: r, h, x, y, hx, hy, e => by
    simp only [injOn, Bool.and_eq_true] at h
    rcases List.mem_cons.1 hx with rfl | hx
    · have := List.all_eq_true.1 h.1 y hy
      exact (of_decide_eq_true this) e
    · exact injOn_spec h.2 x y hx hy e

/-- What is to be so of the names: all that was handed in is big, all new ones are small and told. -/
structure Names (R : List (Nat × Nat)) (pre post : L) (res : SV) (nk : List Nat) : Prop where
  big : ∀ κ, κ ∈ locKeys pre → keyB ≤ κ
  inj : injOn R (locKeys pre) (locKeys pre) = true
  injN : injOn R nk nk = true
  injP : injOn R (locKeys post) (locKeys post) = true
  pk : ∀ κ, κ ∈ keysL post ++ res.keys → (κ < keyB ∧ κ ∈ nk) ∨ (keyB ≤ κ ∧ rn R κ ∉ nk.map (rn R))
  slots : noSlots pre = true ∧ noSlots post = true

theorem slotless {σ : L} (h : noSlots σ = true) {l : Loc} {c : Cont} (hl : (l, c) ∈ σ) : ∃ κ, l.key = some κ := by
  cases l with
  | slot n =>
    obtain ⟨c', hc⟩ := mem_look hl
    rw [noSlots_spec h n] at hc; simp at hc
  | cell κ k => exact ⟨κ, rfl⟩
  | vec κ => exact ⟨κ, rfl⟩

theorem Loc.rn_inj {R : List (Nat × Nat)} {l l' : Loc} {κ κ' : Nat} (hk : l.key = some κ) (hk' : l'.key = some κ') (h : κ = κ') (e : l.rn R = l'.rn R) : l = l' := by
  subst h
  cases l <;> cases l' <;> simp_all [Loc.rn, Loc.key]

/-- The caller's places behind a call. -/
def plc (R : List (Nat × Nat)) (post : L) (ρ' : Places) (nk : List Nat) (ρ : Places) : Places :=
  ⟨(setAll R ρ' nk ρ).v, fun κ b => (∃ κ0 c0, look post (.vec κ0) = some c0 ∧ rn R κ0 = κ ∧ ρ'.X κ0 b) ∨ ((∀ κ0 c0, look post (.vec κ0) = some c0 → rn R κ0 ≠ κ) ∧ ρ.X κ b)⟩

/-- What comes behind: the caller's state with all that the call has changed. -/
theorem does_rel {C : Ctx} {G : Heap} {ρ : Places} {s : State} {a : Act} {w : World} (h : RelG C G ρ s a w) {R : List (Nat × Nat)} {pre post : L} {res : SV} {nk : List Nat} (hn : Names R pre post res nk)
    (hpre : ∀ l c, (l, c) ∈ pre → s (l.rn R) = some (c.rn R)) (hpost : AllIn post post) (hfresh : ∀ n, n ∈ nk → ¬ Mentions s (rn R n)) {ρ1 : Places} (hρ1 : ρ1 = ⟨fun κ => ρ (rn R κ), fun κ => ρ.X (rn R κ)⟩) :
    RelG (doc C.P w G ρ1 pre 0) G ρ1 (look pre) noAct w ∧
    ∀ G' ρ' w', RelG (doc C.P w G ρ1 pre 0) G' ρ' (look post) noAct w' →
      RelG C G' (plc R post ρ' nk ρ) (applys s (dels (ren R pre) ++ adds (ren R post))) a w' ∧ ∀ v, SVRep G' ρ' v res → SVRep G' (plc R post ρ' nk ρ) v (res.rn R) := by
  subst hρ1
  have hkr : ∀ l κ, l.key = some κ → (Loc.rn R l).key = some (rn R κ) := fun l κ hk => by rw [Loc.rn_key, hk]; rfl
  have hpinj : ∀ l c l' c' κ κ', (l, c) ∈ pre → (l', c') ∈ pre → l.key = some κ → l'.key = some κ' → rn R κ = rn R κ' → κ = κ' := fun l c l' c' κ κ' h1 h2 hk hk' e => injOn_spec hn.inj _ _ (locKeys_mem hk h1) (locKeys_mem hk' h2) e
  have hvecrn : ∀ (l : Loc) κ, l.key = some κ → l.rn R = .vec (rn R κ) → l = .vec κ := by
    intro l κ hk e
    cases l with
    | slot n => simp [Loc.key] at hk
    | cell a b => simp [Loc.rn] at e
    | vec a => simp [Loc.key] at hk; rw [hk]
  have hown1 : ∀ l κ b, l.key = some κ → Owns ⟨fun κ => ρ (rn R κ), fun κ => ρ.X (rn R κ)⟩ l κ b → Owns ρ (l.rn R) (rn R κ) b := by
    rintro l κ b hk (ho | ⟨e, ho⟩)
    · exact .inl ho
    · exact .inr ⟨by rw [e]; rfl, ho⟩
  constructor
  · refine ⟨rfl, rfl, rfl, Nat.le_refl _, fun _ _ _ => rfl, h.gle, fun _ _ h => h, fun _ _ h => .inl h, fun b c e f hb _ => ⟨c, hb, rfl, fun _ _ => rfl⟩, fun _ _ => rfl, rfl, rfl, ?_, ?_, ?_, ?_, ?_⟩
    · intro l c κ b hl hk hb
      have hm := look_mem hl
      obtain ⟨h1, h2, _⟩ := h.live _ _ (rn R κ) b (hpre l c hm) (hkr l κ hk) (hown1 l κ b hk hb)
      exact ⟨h1, h2, .inl ⟨hn.big κ (locKeys_mem hk hm), ⟨c, hl⟩, hb⟩⟩
    · intro l c l' c' κ κ' b hl hl' hk hk' hb hb'
      have hm := look_mem hl
      have hm' := look_mem hl'
      exact hpinj l c l' c' κ κ' hm hm' hk hk' (h.inj _ _ _ _ _ _ b (hpre l c hm) (hpre l' c' hm') (hkr l κ hk) (hkr l' κ' hk') (hown1 l κ b hk hb) (hown1 l' κ' b hk' hb'))
    · intro n x hx; rw [noSlots_spec hn.slots.1 n] at hx; simp at hx
    · intro κ k x hx
      obtain ⟨y, b, u, c, e, e1, e2, e3, e4, e5⟩ := h.cell (rn R κ) k _ (hpre _ _ (look_mem hx))
      cases x with
      | c x => simp only [Cont.rn, Cont.c.injEq] at e1; subst e1; exact ⟨x, b, u, c, e, rfl, e2, e3, e4, (AtRep.rn (ρ' := ρ) fun _ _ => rfl).2 e5⟩
      | s x => simp [Cont.rn] at e1
      | r _ _ _ => simp [Cont.rn] at e1
      | o _ _ => simp [Cont.rn] at e1
    · intro κ x hx
      have h2 := h.vec (rn R κ) _ (hpre _ _ (look_mem hx))
      cases x with
      | c x => exact h2.elim
      | s x => exact h2.elim
      | r a1 a2 a3 => exact h2
      | o I ks =>
        have e1 : (ks.map (rn R)).map ρ.v = ks.map fun κ => ρ.v (rn R κ) := by rw [List.map_map]; rfl
        exact (congrArg (Tag.rep I w (ρ.v (rn R κ)) (ρ.X (rn R κ))) e1).mp h2
  · intro G' ρ' w' h'
    -- what may be changed was known
    have hF : ∀ l κ b, (doc C.P w G ⟨fun κ => ρ (rn R κ), fun κ => ρ.X (rn R κ)⟩ pre 0).F l → l.key = some κ → Owns ⟨fun κ => ρ (rn R κ), fun κ => ρ.X (rn R κ)⟩ l κ b → G b = none ∧ b < w.heap.size ∧ C.may (l.rn R) (rn R κ) b := by
      rintro l κ b ⟨c, hc⟩ hk hb
      exact h.live _ _ (rn R κ) b (hpre l c (look_mem hc)) (hkr l κ hk) (hown1 l κ b hk hb)
    have hmayM : ∀ l κ b, C.may l κ b → l.key = some κ → b < C.w0.heap.size → C.M b := by
      rintro l κ b (⟨h1, h2, h3⟩ | h1 | h1) hk hlt
      · exact ⟨l, κ, h2, hk, h3⟩
      · exact h1.m
      · omega
    have hmayV : ∀ κ b, C.may (.vec κ) κ b → b < C.w0.heap.size → C.MV b := by
      rintro κ b (⟨h1, h2, h3⟩ | h1 | h1) hlt
      · exact ⟨κ, h2, h3⟩
      · exact h1
      · omega
    have hnew : ∀ κ, Mentions s κ → plc R post ρ' nk ρ κ = ρ κ := fun κ hκ => setAll_ne fun n hn' e => hfresh n hn' (by rw [e]; exact hκ)
    have hnk : ∀ κ, κ ∈ keysL post ++ res.keys → plc R post ρ' nk ρ (rn R κ) = ρ' κ := by
      intro κ hκ
      rcases hn.pk κ hκ with ⟨_, h2⟩ | ⟨h1, h2⟩
      · exact setAll_at h2 fun m hm e => injOn_spec hn.injN _ _ hm h2 e
      · exact (setAll_ne fun n hn' e => h2 (List.mem_map.2 ⟨n, hn', e⟩)).trans (h'.old κ h1).symm
    have hnX : ∀ κ c, look post (.vec κ) = some c → (plc R post ρ' nk ρ).X (rn R κ) = ρ'.X κ := by
      intro κ c hc
      funext b
      apply propext
      constructor
      · rintro (⟨κ0, c0, h1, h2, h3⟩ | ⟨h1, _⟩)
        · have := injOn_spec hn.injP _ _ (locKeys_mem rfl (look_mem h1)) (locKeys_mem rfl (look_mem hc)) h2
          rw [← this]; exact h3
        · exact absurd rfl (h1 κ c hc)
      · intro hb; exact .inl ⟨κ, c, hc, rfl, hb⟩
    have hownP : ∀ l c κ b, look post l = some c → l.key = some κ → Owns (plc R post ρ' nk ρ) (l.rn R) (rn R κ) b → Owns ρ' l κ b := by
      rintro l c κ b hl hk (ho | ⟨e, ho⟩)
      · rw [hnk κ (by simp [keysL_mem (.inl hk) (look_mem hl)])] at ho; exact .inl ho
      · have := hvecrn l κ hk e
        subst this
        rw [hnX κ c hl] at ho
        exact .inr ⟨rfl, ho⟩
    have hlt0 : ∀ {b o}, C.w0.heap[b]? = some o → b < C.w0.heap.size := fun h => lt_of_heap h
    -- a fact is of the call or of the caller
    have hcases : ∀ l c, applys s (dels (ren R pre) ++ adds (ren R post)) l = some c → (∃ l0 c0, look post l0 = some c0 ∧ l = l0.rn R ∧ c = c0.rn R) ∨ (s l = some c ∧ (∀ l0 c0, (l0, c0) ∈ pre → l ≠ l0.rn R) ∧ ∀ l0 c0, look post l0 = some c0 → l ≠ l0.rn R) := by
      intro l c hl
      rw [applys_append] at hl
      rcases applys_adds hl with h1 | ⟨h0, h1⟩
      · obtain ⟨l0, c0, h2, e1, e2⟩ := ren_mem h1
        refine .inl ⟨l0, c0, ?_, e1, e2⟩
        have : ∀ {τ : L}, (l0, c0) ∈ τ → AllIn τ post → look post l0 = some c0 := by
          intro τ
          induction τ with
          | nil => intro hm; simp at hm
          | cons p r ih =>
            obtain ⟨l1, c1⟩ := p
            intro hm ha
            simp only [List.mem_cons, Prod.mk.injEq] at hm
            rcases hm with ⟨rfl, rfl⟩ | hm
            · exact ha.1
            · exact ih hm ha.2
        exact this h2 hpost
      · obtain ⟨h2, h3⟩ := applys_dels h1
        exact .inr ⟨h3, fun l0 c0 hm e => h2 (c0.rn R) (by rw [e]; exact mem_ren hm), fun l0 c0 hm e => h0 (c0.rn R) (by rw [e]; exact mem_ren (look_mem hm))⟩
    have hnXc : ∀ κ, (∀ l0 c0, look post l0 = some c0 → Loc.vec κ ≠ l0.rn R) → (plc R post ρ' nk ρ).X κ = ρ.X κ := by
      intro κ hne
      funext b
      apply propext
      constructor
      · rintro (⟨κ0, c0, h1, h2, _⟩ | ⟨_, h1⟩)
        · exact absurd (by rw [← h2]; rfl) (hne _ _ h1)
        · exact h1
      · intro hb
        exact .inr ⟨fun κ0 c0 h1 e => hne _ _ h1 (by rw [← e]; rfl), hb⟩
    have hownC : ∀ l c κ b, s l = some c → l.key = some κ → (∀ l0 c0, look post l0 = some c0 → l ≠ l0.rn R) → Owns (plc R post ρ' nk ρ) l κ b → Owns ρ l κ b := by
      rintro l c κ b hl hk hne (ho | ⟨e, ho⟩)
      · rw [hnew κ (.inr ⟨l, c, hl, .inl hk⟩)] at ho; exact .inl ho
      · subst e
        rw [hnXc κ hne] at ho
        exact .inr ⟨rfl, ho⟩
    -- the caller's own is apart from what was handed over
    have hapart : ∀ l c κ b, s l = some c → (∀ l0 c0, (l0, c0) ∈ pre → l ≠ l0.rn R) → l.key = some κ → Owns ρ l κ b →
        ¬ (doc C.P w G ⟨fun κ => ρ (rn R κ), fun κ => ρ.X (rn R κ)⟩ pre 0).MV b ∧ ∀ κ0 k, (doc C.P w G ⟨fun κ => ρ (rn R κ), fun κ => ρ.X (rn R κ)⟩ pre 0).F (.cell κ0 k) → blk (ρ (rn R κ0)) = some b → l ≠ .vec κ ∧ l ≠ .cell κ k := by
      intro l c κ b hl hne hk hb
      constructor
      · rintro ⟨κ0, ⟨c0, hc0⟩, hb0⟩
        have hm := look_mem hc0
        have e := h.inj l c _ _ κ (rn R κ0) b hl (hpre _ _ hm) hk rfl hb (hown1 _ κ0 b rfl hb0)
        subst e
        exact hne _ _ hm (vec_only h (hpre _ _ hm) hl hk)
      · rintro κ0 k ⟨c0, hc0⟩ hb0
        have hm := look_mem hc0
        have e := h.inj l c _ _ κ (rn R κ0) b hl (hpre _ _ hm) hk rfl hb (.inl hb0)
        subst e
        refine ⟨?_, hne _ _ hm⟩
        rintro rfl
        have := vec_only h hl (hpre _ _ hm) rfl
        simp [Loc.rn] at this
    refine ⟨⟨h'.os.trans h.os, h'.tape.trans h.tape, h'.output.trans h.output, Nat.le_trans h.size h'.size, ?_, h'.gle, fun b o hb => h'.g0 b o (h.g0 b o hb), ?_, ?_, ?_, h.defers, h.ntmps, ?_, ?_, ?_, ?_, ?_⟩, fun v hv => (SVRep.rn fun κ hκ => hnk κ (by simp [hκ])).1 hv⟩
    · -- block
      intro b hb hm
      rw [h'.block b (Nat.lt_of_lt_of_le hb h.size) ?_]
      · exact h.block b hb hm
      · rintro ⟨l, κ, hl, hk, hbk⟩
        obtain ⟨_, _, h3⟩ := hF l κ b hl hk hbk
        exact hm (hmayM _ _ b h3 (hkr l κ hk) hb)
    · -- gnew
      intro b o hb
      rcases h'.gnew b o hb with h1 | h1 | ⟨κ, h1, h2⟩
      · exact h.gnew b o h1
      · exact .inr (.inl (Nat.le_trans h.size h1))
      · obtain ⟨_, _, h3⟩ := hF _ κ b h1 rfl h2
        rcases h3 with ⟨h3, h4, h5⟩ | h3 | h3
        · exact .inr (.inr ⟨_, h4, h5⟩)
        · exact .inr (.inr h3)
        · exact .inr (.inl h3)
    · -- keep
      intro b c e f hb hnv
      obtain ⟨c1, g1, g2, g3⟩ := h.keep b c e f hb hnv
      have hlt := hlt0 hb
      obtain ⟨c2, f1, f2, f3⟩ := h'.keep b c1 e f g1 fun κ hκ hbk => by
        obtain ⟨_, _, h3⟩ := hF _ κ b hκ rfl hbk
        obtain ⟨κ2, q1, q2⟩ := hmayV _ b h3 hlt
        exact hnv κ2 q1 q2
      refine ⟨c2, f1, f2.trans g2, fun k hk => ?_⟩
      rw [f3 k fun κ hκ hbk => ?_]
      · exact g3 k hk
      · obtain ⟨_, _, h3⟩ := hF _ κ b hκ rfl (.inl hbk)
        rcases h3 with ⟨h3, h4, h5⟩ | ⟨κ2, q1, q2⟩ | h3
        · exact hk _ h4 h5.cell
        · exact hnv κ2 q1 q2
        · omega
    · -- old
      intro κ hκ
      rw [hnew κ (.inl hκ)]
      exact h.old κ hκ
    · -- live
      intro l c κ b hl hk hb
      rcases hcases l c hl with ⟨l0, c0, h1, rfl, rfl⟩ | ⟨h1, h2, h2'⟩
      · obtain ⟨κ0, hk0⟩ := slotless hn.slots.2 (look_mem h1)
        rw [hkr l0 κ0 hk0] at hk
        injection hk with hk
        subst hk
        have hb := hownP l0 c0 κ0 b h1 hk0 hb
        obtain ⟨g1, g2, g3⟩ := h'.live l0 c0 κ0 b h1 hk0 hb
        refine ⟨g1, g2, ?_⟩
        rcases g3 with ⟨g3, g4, g5⟩ | ⟨κ1, g3, g4⟩ | g3
        · exact (hF l0 κ0 b g4 hk0 g5).2.2
        · obtain ⟨_, _, h3⟩ := hF _ κ1 b g3 rfl g4
          rcases h3 with ⟨h3, h5, h6⟩ | h3 | h3
          · exact .inr (.inl ⟨_, h5, h6⟩)
          · exact .inr (.inl h3)
          · exact .inr (.inr h3)
        · exact .inr (.inr (Nat.le_trans h.size g3))
      · have hb := hownC l c κ b h1 hk h2' hb
        obtain ⟨g1, g2, g3⟩ := h.live l c κ b h1 hk hb
        refine ⟨?_, Nat.lt_of_lt_of_le g2 h'.size, g3⟩
        cases hG : G' b with
        | none => rfl
        | some o =>
          rcases h'.gnew b o hG with q | q | q
          · have q : G b = some o := q
            rw [g1] at q; simp at q
          · have q : w.heap.size ≤ b := q
            omega
          · exact absurd q (hapart l c κ b h1 h2 hk hb).1
    · -- inj
      have hmix : ∀ l c κ b l0 c0 κ0, s l = some c → (∀ l0 c0, (l0, c0) ∈ pre → l ≠ l0.rn R) → l.key = some κ → Owns ρ l κ b → look post l0 = some c0 → l0.key = some κ0 → Owns ρ' l0 κ0 b → κ = rn R κ0 := by
        intro l c κ b l0 c0 κ0 h1 h2 hk hb q1 q2 q3
        obtain ⟨g1, g2, g3⟩ := h'.live l0 c0 κ0 b q1 q2 q3
        rcases g3 with ⟨g3, ⟨cp, g4⟩, g5⟩ | g3 | g3
        · exact h.inj l c _ _ κ (rn R κ0) b h1 (hpre l0 cp (look_mem g4)) hk (hkr l0 κ0 q2) hb (hown1 l0 κ0 b q2 g5)
        · exact absurd g3 (hapart l c κ b h1 h2 hk hb).1
        · have := (h.live l c κ b h1 hk hb).2.1
          have g3 : w.heap.size ≤ b := g3
          omega
      intro l c l' c' κ κ' b hl hl' hk hk' hb hb'
      rcases hcases l c hl with ⟨l0, c0, h1, rfl, rfl⟩ | ⟨h1, h2, h2'⟩
      · obtain ⟨κ0, hk0⟩ := slotless hn.slots.2 (look_mem h1)
        rw [hkr l0 κ0 hk0] at hk
        injection hk with hk
        subst hk
        have hb := hownP l0 c0 κ0 b h1 hk0 hb
        rcases hcases l' c' hl' with ⟨l1, c1, h3, rfl, rfl⟩ | ⟨h3, h4, h4'⟩
        · obtain ⟨κ1, hk1⟩ := slotless hn.slots.2 (look_mem h3)
          rw [hkr l1 κ1 hk1] at hk'
          injection hk' with hk'
          subst hk'
          have hb' := hownP l1 c1 κ1 b h3 hk1 hb'
          rw [h'.inj l0 c0 l1 c1 κ0 κ1 b h1 h3 hk0 hk1 hb hb']
        · have hb' := hownC l' c' κ' b h3 hk' h4' hb'
          exact (hmix l' c' κ' b l0 c0 κ0 h3 h4 hk' hb' h1 hk0 hb).symm
      · have hb := hownC l c κ b h1 hk h2' hb
        rcases hcases l' c' hl' with ⟨l1, c1, h3, rfl, rfl⟩ | ⟨h3, h4, h4'⟩
        · obtain ⟨κ1, hk1⟩ := slotless hn.slots.2 (look_mem h3)
          rw [hkr l1 κ1 hk1] at hk'
          injection hk' with hk'
          subst hk'
          have hb' := hownP l1 c1 κ1 b h3 hk1 hb'
          exact hmix l c κ b l1 c1 κ1 h1 h2 hk hb h3 hk1 hb'
        · have hb' := hownC l' c' κ' b h3 hk' h4' hb'
          exact h.inj l c l' c' κ κ' b h1 h3 hk hk' hb hb'
    · -- slot
      intro n x hx
      rcases hcases _ x hx with ⟨l0, c0, h1, e, _⟩ | ⟨h1, _⟩
      · exfalso
        obtain ⟨κ0, hk0⟩ := slotless hn.slots.2 (look_mem h1)
        have := hkr l0 κ0 hk0
        rw [← e] at this
        simp [Loc.key] at this
      · obtain ⟨v, y, e1, e2, e3⟩ := h.slot n x h1
        exact ⟨v, y, e1, e2, e3.move h'.g0 fun κ hκ => hnew κ (.inr ⟨_, _, h1, .inr (by rw [e1]; exact hκ)⟩)⟩
    · -- cell
      intro κ k x hx
      rcases hcases _ x hx with ⟨l0, c0, h1, e, rfl⟩ | ⟨h1, h2, h2'⟩
      · cases l0 with
        | slot n => simp [Loc.rn] at e
        | vec κ0 => simp [Loc.rn] at e
        | cell κ0 k0 =>
          simp only [Loc.rn, Loc.cell.injEq] at e
          obtain ⟨rfl, rfl⟩ := e
          obtain ⟨y, b, u, c, e', e1, e2, e3, e4, e5⟩ := h'.cell κ0 k c0 h1
          subst e1
          have hm := look_mem h1
          refine ⟨y.rn R, b, u, c, e', rfl, ?_, e3, e4, (AtRep.rn fun κ hκ => hnk κ ?_).1 e5⟩
          · rw [hnk κ0 (by simp [keysL_mem (.inl rfl) hm])]; exact e2
          · simp [keysL_mem (κ := κ) (.inr (by simpa [Cont.keys] using hκ)) hm]
      · obtain ⟨y, b, u, c, e, e1, e2, e3, e4, e5⟩ := h.cell κ k x h1
        have hb : blk (ρ κ) = some b := by rw [e2]; rfl
        obtain ⟨n1, n2⟩ := hapart _ x κ b h1 h2 rfl (.inl hb)
        obtain ⟨c', f1, f2, f3⟩ := h'.keep b c e (0, 0) e3 fun κ0 hκ0 hbk => n1 ⟨κ0, hκ0, hbk⟩
        refine ⟨y, b, u, c', e, e1, ?_, f1, ?_, e5.move h'.g0 fun κ' hκ' => hnew κ' (.inr ⟨_, _, h1, .inr (by rw [e1]; exact hκ')⟩)⟩
        · rw [hnew κ (.inr ⟨_, _, h1, .inl rfl⟩)]; exact e2
        · rw [f3 k fun κ0 hκ0 hbk => (n2 κ0 k hκ0 hbk).2 rfl]; exact e4
    · -- vec
      intro κ x hx
      rcases hcases _ x hx with ⟨l0, c0, h1, e, rfl⟩ | ⟨h1, h2, h2'⟩
      · cases l0 with
        | slot n => simp [Loc.rn] at e
        | cell _ _ => simp [Loc.rn] at e
        | vec κ0 =>
          simp only [Loc.rn, Loc.vec.injEq] at e
          subst e
          have h3 := h'.vec κ0 c0 h1
          have e1 := hnk κ0 (by simp [keysL_mem (.inl rfl) (look_mem h1)])
          cases c0 with
          | s _ => exact h3.elim
          | c _ => exact h3.elim
          | r sz et rows =>
            show VecRep _ _ _ _ _ _
            rw [e1]; exact h3
          | o I ks =>
            have e2 : (ks.map (rn R)).map (plc R post ρ' nk ρ).v = ks.map ρ'.v := by
              rw [List.map_map]
              exact List.map_congr_left fun k hk => hnk k (by simp [keysL_mem (κ := k) (.inr (by simpa [Cont.keys] using hk)) (look_mem h1)])
            show Tag.rep _ _ _ _ _
            rw [e1, hnX κ0 _ h1]
            exact (congrArg (Tag.rep I w' (ρ'.v κ0) (ρ'.X κ0)) e2).mpr h3
      · refine (h.vec κ x h1).ext h'.g0 (hnew κ (.inr ⟨_, _, h1, .inl rfl⟩)) (hnXc κ h2') (fun k hk => hnew k (.inr ⟨_, _, h1, .inr hk⟩)) fun b hb => ?_
        refine h'.block b (h.live _ _ κ b h1 rfl hb).2.1 ?_
        obtain ⟨n1, n2⟩ := hapart _ x κ b h1 h2 rfl hb
        rintro ⟨l, κ0, hl, hk0, hbk⟩
        cases l with
        | slot n => simp [Loc.key] at hk0
        | cell κ1 k =>
          simp only [Loc.key, Option.some.injEq] at hk0
          subst hk0
          exact (n2 κ1 k hl hbk.cell).1 rfl
        | vec κ1 =>
          simp only [Loc.key, Option.some.injEq] at hk0
          subst hk0
          exact n1 ⟨κ1, hl, hbk⟩
end Go.AM
