import Derived.Test.YtidnlnnobegniaaA0
set_option linter.unusedVariables false
set_option linter.unusedSimpArgs false
namespace Go.AM

/-! ### 1. Trees: data that nobody writes -/
inductive T where
  | lit (v : Value)
  | sl (sz : Nat) (rows : List (List T))
  | ptr (cells : List T)
  | fn (f : FuncId) (caps : List T)
  deriving Inhabited

abbrev Heap := Nat → Option Obj

def gcell (G : Heap) (a : Addr) : Option Value :=
  match G a.block with
  | some (.cells c _ _) => if a.spot.isSome then none else c[a.off]?
  | _ => none

def GLe (G : Heap) (w : World) : Prop := ∀ b o, G b = some o → w.heap[b]? = some o
def GExt (G G' : Heap) : Prop := ∀ b o, G b = some o → G' b = some o

theorem gcell_cell {G : Heap} {w : World} (h : GLe G w) {a : Addr} {v : Value} (hc : gcell G a = some v) : w.cell? a = some v := by
  unfold gcell at hc
  split at hc
  · rename_i c e f hg
    simp [World.cell?, h _ _ hg]
    simpa using hc
  · simp at hc

theorem gcell_ext {G G' : Heap} (h : GExt G G') {a : Addr} {v : Value} (hc : gcell G a = some v) : gcell G' a = some v := by
  unfold gcell at hc ⊢
  split at hc
  · rename_i c e f hg
    rw [h _ _ hg]; exact hc
  · simp at hc

theorem cells_one {v : Value} (h : v.oneCell' = true) : v.cells = #[v] := by cases v <;> simp_all [Value.oneCell', Value.cells]

inductive VRep (G : Heap) : Value → T → Prop where
  | lit (v : Value) : VRep G v (.lit v)
  | sl (A : Option Addr) (n c sz : Nat) (rows : List (List T)) (u : Nat → Nat → Value)
      (hn : rows.length = n) (hc : n ≤ c)
      (hsz : ∀ (i : Nat) (cells : List T), rows[i]? = some cells → cells.length = sz)
      (hA : A.isSome = true ∨ c = 0)
      (hcell : ∀ ad, A = some ad → ∀ i k, i < n → k < sz → gcell G ((ad.add (i * sz)).add k) = some (u i k) ∧ (u i k).oneCell' = true)
      (hrec : ∀ (i : Nat) (cells : List T) (k : Nat) (t : T), rows[i]? = some cells → cells[k]? = some t → VRep G (u i k) t) :
      VRep G (.slice A n c) (.sl sz rows)
  | ptr (a : Addr) (cells : List T) (u : Nat → Value)
      (hcell : ∀ k, k < cells.length → gcell G (a.add k) = some (u k) ∧ (u k).oneCell' = true)
      (hrec : ∀ (k : Nat) (t : T), cells[k]? = some t → VRep G (u k) t) :
      VRep G (.pointer (some a)) (.ptr cells)
  | fn (f : FuncId) (vs : List Value) (caps : List T) (u : Nat → Value)
      (hl : vs.length = caps.length)
      (hu : ∀ (k : Nat) v, vs[k]? = some v → v = u k ∧ v.oneCell' = true)
      (hrec : ∀ (k : Nat) (t : T), caps[k]? = some t → VRep G (u k) t) :
      VRep G (.func (.func f) #[] vs.toArray) (.fn f caps)

theorem VRep.ext {G G' : Heap} (h : GExt G G') {v : Value} {t : T} (hv : VRep G v t) : VRep G' v t := by
  induction hv with
  | lit v => exact .lit v
  | sl A n c sz rows u hn hc hsz hA hcell hrec ih =>
    exact .sl A n c sz rows u hn hc hsz hA (fun ad e i k hi hk => ⟨gcell_ext h (hcell ad e i k hi hk).1, (hcell ad e i k hi hk).2⟩) ih
  | ptr a cells u hcell hrec ih => exact .ptr a cells u (fun k hk => ⟨gcell_ext h (hcell k hk).1, (hcell k hk).2⟩) ih
  | fn f vs caps u hl hu hrec ih => exact .fn f vs caps u hl hu ih

theorem VRep.nil (G : Heap) (sz : Nat) : VRep G (.slice none 0 0) (.sl sz []) :=
  .sl none 0 0 sz [] (fun _ _ => default) rfl (Nat.le_refl _) (by simp) (.inr rfl) (by simp) (by simp)

theorem VRep.lit_inv {G : Heap} {v v' : Value} (h : VRep G v (.lit v')) : v = v' := by cases h; rfl

/-! ### 2. Values of slots and cells -/
inductive At where
  | t (x : T)
  | ptr (κ off : Nat)
  | row (κ : Nat)
  | vptr (κ sz i k : Nat)
  | tptr (cells : List T)
  | obj (κ : Nat)
  | slen (n : Nat)
  | part (κ sz lo n : Nat)
  deriving Inhabited

inductive V1 where
  | one (x : At)
  | agg (cs : List At)
  deriving Inhabited

inductive SV where
  | v (x : V1)
  | tup (xs : List V1)
  deriving Inhabited

inductive All2 {α β : Type} (R : α → β → Prop) : List α → List β → Prop where
  | nil : All2 R [] []
  | cons {a b as bs} (h : R a b) (t : All2 R as bs) : All2 R (a :: as) (b :: bs)

theorem All2.imp {α β : Type} {R S : α → β → Prop} {as : List α} {bs : List β} (h : All2 R as bs) (f : ∀ a b, b ∈ bs → R a b → S a b) : All2 S as bs := by
  induction h with
  | nil => exact .nil
  | cons h t ih => exact .cons (f _ _ (by simp) h) (ih fun a b hb => f a b (by simp [hb]))

theorem All2.length {α β : Type} {R : α → β → Prop} {as : List α} {bs : List β} (h : All2 R as bs) : as.length = bs.length := by
  induction h <;> simp_all

theorem All2.get {α β : Type} {R : α → β → Prop} {as : List α} {bs : List β} (h : All2 R as bs) {i : Nat} {b : β} (hb : bs[i]? = some b) : ∃ a, as[i]? = some a ∧ R a b := by
  induction h generalizing i with
  | nil => simp at hb
  | cons h t ih =>
    cases i with
    | zero => simp at hb; subst hb; exact ⟨_, rfl, h⟩
    | succ i => simp at hb; simpa using ih hb

theorem All2.append {α β : Type} {R : α → β → Prop} {as as' : List α} {bs bs' : List β} (h : All2 R as bs) (h' : All2 R as' bs') : All2 R (as ++ as') (bs ++ bs') := by
  induction h with
  | nil => exact h'
  | cons h t ih => exact .cons h ih

theorem All2.of_get {α β : Type} {R : α → β → Prop} : ∀ {as : List α} {bs : List β}, as.length = bs.length → (∀ (i : Nat) a b, as[i]? = some a → bs[i]? = some b → R a b) → All2 R as bs
  | [], [], _, _ => .nil
  | a :: as, b :: bs, hl, h => .cons (h 0 a b rfl rfl) (All2.of_get (by simpa using hl) fun i x y hx hy => h (i + 1) x y (by simpa using hx) (by simpa using hy))

theorem All2.take {α β : Type} {R : α → β → Prop} {as : List α} {bs : List β} (h : All2 R as bs) (n : Nat) : All2 R (as.take n) (bs.take n) := by
  induction h generalizing n with
  | nil => simp; exact .nil
  | cons h t ih => cases n with
    | zero => simp; exact .nil
    | succ n => simp; exact .cons h (ih n)

theorem All2.drop {α β : Type} {R : α → β → Prop} {as : List α} {bs : List β} (h : All2 R as bs) (n : Nat) : All2 R (as.drop n) (bs.drop n) := by
  induction h generalizing n with
  | nil => simp; exact .nil
  | cons h t ih => cases n with
    | zero => simp; exact .cons h t
    | succ n => simp; exact ih n

/-- Where the boxes lie: the pointer to a variable, the slice of a row; and blocks that a key owns besides. -/
structure Places where
  v : Nat → Value
  X : Nat → Nat → Prop
instance : CoeFun Places (fun _ => Nat → Value) := ⟨Places.v⟩

def AtRep (G : Heap) (ρ : Places) (v : Value) (x : At) : Prop :=
  v.oneCell' = true ∧ match x with
  | .t x => VRep G v x
  | .ptr κ off => ∃ b, ρ κ = .pointer (some ⟨b, 0, none⟩) ∧ v = .pointer (some ⟨b, off, none⟩)
  | .row κ => v = ρ κ ∧ ∃ A n c, ρ κ = .slice A n c
  | .vptr κ sz i k => ∃ b n c, ρ κ = .slice (some ⟨b, 0, none⟩) n c ∧ v = .pointer (some ⟨b, i * sz + k, none⟩)
  | .tptr cells => ∃ a, v = .pointer (some a) ∧ ∀ (k : Nat) t, cells[k]? = some t → ∃ u, gcell G (a.add k) = some u ∧ u.oneCell' = true ∧ VRep G u t
  | .obj κ => v = ρ κ
  | .slen n => ∃ A c, v = .slice A n c
  | .part κ sz lo n => ∃ b m c, ρ κ = .slice (some ⟨b, 0, none⟩) m c ∧ lo + n ≤ m ∧ ∃ ad k, v = .slice (some ad) n k ∧ n ≤ k ∧ (n = 0 ∨ ad = ⟨b, lo * sz, none⟩)

def V1Rep (G : Heap) (ρ : Places) (v : Value) : V1 → Prop
  | .one x => AtRep G ρ v x
  | .agg cs => ∃ vs : List Value, v = .agg vs.toArray ∧ All2 (AtRep G ρ) vs cs

def SVRep (G : Heap) (ρ : Places) (v : Value) : SV → Prop
  | .v x => V1Rep G ρ v x
  | .tup xs => ∃ vs : List Value, v = .tuple vs.toArray ∧ All2 (V1Rep G ρ) vs xs

def At.keys : At → List Nat
  | .t _ => []
  | .ptr κ _ => [κ]
  | .row κ => [κ]
  | .vptr κ _ _ _ => [κ]
  | .tptr _ => []
  | .obj κ => [κ]
  | .slen _ => []
  | .part κ _ _ _ => [κ]
def V1.keys : V1 → List Nat
  | .one x => x.keys
  | .agg cs => cs.flatMap At.keys
def SV.keys : SV → List Nat
  | .v x => x.keys
  | .tup xs => xs.flatMap V1.keys

theorem AtRep.move {G G' : Heap} {ρ ρ' : Places} (hG : GExt G G') {v : Value} {x : At} (hρ : ∀ κ, κ ∈ x.keys → ρ' κ = ρ κ) (h : AtRep G ρ v x) : AtRep G' ρ' v x := by
  obtain ⟨h1, h2⟩ := h
  refine ⟨h1, ?_⟩
  cases x with
  | t x => exact h2.ext hG
  | ptr κ off => simpa [hρ κ (by simp [At.keys])] using h2
  | row κ => simpa [hρ κ (by simp [At.keys])] using h2
  | vptr κ sz i k => simpa [hρ κ (by simp [At.keys])] using h2
  | obj κ => simpa [hρ κ (by simp [At.keys])] using h2
  | slen n => exact h2
  | part κ sz lo n => simpa [hρ κ (by simp [At.keys])] using h2
  | tptr cells =>
    obtain ⟨a, e, h⟩ := h2
    exact ⟨a, e, fun k t hk => let ⟨u, h1, h2, h3⟩ := h k t hk; ⟨u, gcell_ext hG h1, h2, h3.ext hG⟩⟩

theorem V1Rep.move {G G' : Heap} {ρ ρ' : Places} (hG : GExt G G') {v : Value} {x : V1} (hρ : ∀ κ, κ ∈ x.keys → ρ' κ = ρ κ) (h : V1Rep G ρ v x) : V1Rep G' ρ' v x := by
  cases x with
  | one x => exact AtRep.move hG hρ h
  | agg cs =>
    obtain ⟨vs, e, h⟩ := h
    exact ⟨vs, e, h.imp fun a b hb hr => hr.move hG fun κ hκ => hρ κ (by simp only [V1.keys, List.mem_flatMap]; exact ⟨b, hb, hκ⟩)⟩

theorem SVRep.move {G G' : Heap} {ρ ρ' : Places} (hG : GExt G G') {v : Value} {x : SV} (hρ : ∀ κ, κ ∈ x.keys → ρ' κ = ρ κ) (h : SVRep G ρ v x) : SVRep G' ρ' v x := by
  cases x with
  | v x => exact V1Rep.move hG hρ h
  | tup xs =>
    obtain ⟨vs, e, h⟩ := h
    exact ⟨vs, e, h.imp fun a b hb hr => hr.move hG fun κ hκ => hρ κ (by simp only [SV.keys, List.mem_flatMap]; exact ⟨b, hb, hκ⟩)⟩

/-! ### 3. States -/
inductive Loc where
  | slot (n : Nat)
  | cell (κ k : Nat)
  | vec (κ : Nat)
  deriving DecidableEq, Inhabited

inductive Cont where
  | s (x : SV)
  | c (x : At)
  | r (sz : Nat) (e : TypeId) (rows : List (List T))
  | o (g : Tag) (ks : List Nat)
  deriving Inhabited

def Loc.key : Loc → Option Nat
  | .slot _ => none
  | .cell κ _ => some κ
  | .vec κ => some κ
def Cont.keys : Cont → List Nat
  | .s x => x.keys
  | .c x => x.keys
  | .r _ _ _ => []
  | .o _ ks => ks

abbrev State := Loc → Option Cont

def upd (s : State) (l : Loc) (c : Option Cont) : State := fun l' => if l' = l then c else s l'
theorem upd_same (s : State) (l : Loc) (c : Option Cont) : upd s l c l = c := by simp [upd]
theorem upd_ne (s : State) {l l' : Loc} (c : Option Cont) (h : l' ≠ l) : upd s l c l' = s l' := by simp [upd, h]
theorem upd_comm (s : State) {l l' : Loc} (c c' : Option Cont) (h : l ≠ l') : upd (upd s l c) l' c' = upd (upd s l' c') l c := by
  funext x
  simp only [upd]
  by_cases h1 : x = l <;> by_cases h2 : x = l' <;> simp_all

def applys (s : State) (wr : List (Loc × Option Cont)) : State := wr.foldl (fun s p => upd s p.1 p.2) s

theorem applys_nil (s : State) : applys s [] = s := rfl
theorem applys_cons (s : State) (p : Loc × Option Cont) (wr : List (Loc × Option Cont)) : applys s (p :: wr) = applys (upd s p.1 p.2) wr := rfl

theorem applys_other {wr : List (Loc × Option Cont)} : ∀ (s : State) {l : Loc}, l ∉ wr.map (·.1) → applys s wr l = s l := by
  induction wr with
  | nil => intro s l _; rfl
  | cons p wr ih =>
    intro s l h
    simp only [List.map_cons, List.mem_cons, not_or] at h
    rw [applys_cons, ih _ h.2, upd_ne _ _ h.1]

theorem applys_upd {wr : List (Loc × Option Cont)} : ∀ (s : State) {l : Loc} (c : Option Cont), l ∉ wr.map (·.1) → applys (upd s l c) wr = upd (applys s wr) l c := by
  induction wr with
  | nil => intro s l c _; rfl
  | cons p wr ih =>
    intro s l c h
    simp only [List.map_cons, List.mem_cons, not_or] at h
    rw [applys_cons, applys_cons, upd_comm _ _ _ h.1, ih _ _ h.2]

theorem applys_comm {wr wr' : List (Loc × Option Cont)} (h : ∀ l, l ∈ wr.map (·.1) → l ∉ wr'.map (·.1)) : ∀ (s : State), applys (applys s wr) wr' = applys (applys s wr') wr := by
  induction wr with
  | nil => intro s; rfl
  | cons p wr ih =>
    intro s
    rw [applys_cons, applys_cons, ih (fun l hl => h l (by simp [hl])), applys_upd s p.2 (h p.1 (by simp))]

/-- A key that a state speaks of. -/
def keyB : Nat := 100000
def Mentions (s : State) (κ : Nat) : Prop := keyB ≤ κ ∨ ∃ l c, s l = some c ∧ (l.key = some κ ∨ κ ∈ c.keys)

structure Ctx where
  P : Program
  w0 : World
  G0 : Heap
  F : Loc → Prop
  ρ0 : Places
  N : Nat

/-- What a key owns. -/
def Owns (ρ : Places) (l : Loc) (κ b : Nat) : Prop := blk (ρ κ) = some b ∨ (l = .vec κ ∧ ρ.X κ b)
theorem Owns.cell {ρ : Places} {κ0 k κ b : Nat} (h : Owns ρ (.cell κ0 k) κ b) : blk (ρ κ) = some b := h.resolve_right (by simp)
/-- Blocks that may be written. -/
def Ctx.M (C : Ctx) (b : Nat) : Prop := ∃ l κ, C.F l ∧ l.key = some κ ∧ Owns C.ρ0 l κ b
/-- .. and whole rows that were handed in. -/
def Ctx.MV (C : Ctx) (b : Nat) : Prop := ∃ κ, C.F (.vec κ) ∧ Owns C.ρ0 (.vec κ) κ b
theorem Ctx.MV.m {C : Ctx} {b : Nat} (h : C.MV b) : C.M b := let ⟨κ, h1, h2⟩ := h; ⟨_, κ, h1, rfl, h2⟩
/-- A place that may be written. -/
def Ctx.may (C : Ctx) (l : Loc) (κ b : Nat) : Prop := (keyB ≤ κ ∧ C.F l ∧ Owns C.ρ0 l κ b) ∨ C.MV b ∨ C.w0.heap.size ≤ b

def VecRep (G : Heap) (w : World) (v : Value) (sz : Nat) (e : TypeId) (rows : List (List T)) : Prop :=
  (∀ (i : Nat) cells, rows[i]? = some cells → cells.length = sz) ∧ ∃ xs : List Value, w.ownsRow 0 e sz v rows.length xs ∧
    ∀ (i : Nat) cells (k : Nat) t, rows[i]? = some cells → cells[k]? = some t → ∃ u, xs[i * sz + k]? = some u ∧ u.oneCell' = true ∧ VRep G u t

/-- What is known of a row, or of a thing. -/
def ContRep (G : Heap) (w : World) (ρ : Places) (κ : Nat) : Cont → Prop
  | .r sz e rows => VecRep G w (ρ κ) sz e rows
  | .o g ks => g.rep w (ρ κ) (ρ.X κ) (ks.map ρ.v)
  | _ => False

variable {G : Heap}
theorem VecRep.ext {G' : Heap} (hG : GExt G G') {w w' : World} {v : Value} {sz : Nat} {e : TypeId} {rows : List (List T)} (hb : ∀ b, blk v = some b → w'.heap[b]? = w.heap[b]?) (h : VecRep G w v sz e rows) : VecRep G' w' v sz e rows := by
  obtain ⟨h0, xs, h1, h2⟩ := h
  refine ⟨h0, xs, own_same h1 hb, fun i cells k t hi hk => ?_⟩
  obtain ⟨u, h3, h4, h5⟩ := h2 i cells k t hi hk
  exact ⟨u, h3, h4, h5.ext hG⟩

theorem VecRep.blk_lt {w : World} {v : Value} {sz : Nat} {e : TypeId} {rows : List (List T)} (h : VecRep G w v sz e rows) {b : Nat} (hb : blk v = some b) : b < w.heap.size := by
  obtain ⟨_, xs, h1, _⟩ := h
  exact (h1.lt b (own_block_of h1 hb)).2


theorem VecRep.nptr {w : World} {v : Value} {sz : Nat} {e : TypeId} {rows : List (List T)} (h : VecRep G w v sz e rows) (a : Option Addr) : v ≠ .pointer a := by
  obtain ⟨_, xs, h1, _⟩ := h
  rcases h1.2 with ⟨rfl, _⟩ | ⟨g, cap, cur, rfl, _⟩ <;> simp

theorem ContRep.ext {G G' : Heap} {w w' : World} {ρ ρ' : Places} {κ : Nat} {c : Cont} (hG : GExt G G') (hv : ρ' κ = ρ κ) (hX : ρ'.X κ = ρ.X κ) (hk : ∀ k, k ∈ c.keys → ρ' k = ρ k) (hb : ∀ b, Owns ρ (.vec κ) κ b → w'.heap[b]? = w.heap[b]?) (h : ContRep G w ρ κ c) : ContRep G' w' ρ' κ c := by
  cases c with
  | s x => exact h
  | c x => exact h
  | r sz e rows =>
    simp only [ContRep, hv] at h ⊢
    exact h.ext hG fun b h1 => hb b (.inl h1)
  | o I ks =>
    have e : ks.map ρ'.v = ks.map ρ.v := List.map_congr_left fun k hk' => hk k hk'
    simp only [ContRep, hv, hX, e] at h ⊢
    exact Tag.ext (fun b h1 => hb b (h1.imp id fun h2 => ⟨rfl, h2⟩)) h
theorem ContRep.same {G G' : Heap} {w w' : World} {ρ : Places} {κ : Nat} {c : Cont} (hG : GExt G G') (hb : ∀ b, Owns ρ (.vec κ) κ b → w'.heap[b]? = w.heap[b]?) (h : ContRep G w ρ κ c) : ContRep G' w' ρ κ c := h.ext hG rfl rfl (fun _ _ => rfl) hb
theorem ContRep.nptr {G : Heap} {w : World} {ρ : Places} {κ : Nat} {c : Cont} (h : ContRep G w ρ κ c) (a : Option Addr) : ρ κ ≠ .pointer a := by
  cases c with
  | s x => exact h.elim
  | c x => exact h.elim
  | r sz e rows => exact VecRep.nptr h a
  | o I ks => exact Tag.nptr h a

structure RelG (C : Ctx) (G : Heap) (ρ : Places) (s : State) (a : Act) (w : World) : Prop where
  os : w.os = C.w0.os
  tape : w.tape = C.w0.tape
  output : w.output = C.w0.output
  size : C.w0.heap.size ≤ w.heap.size
  block : ∀ b, b < C.w0.heap.size → ¬ C.M b → w.heap[b]? = C.w0.heap[b]?
  gle : GLe G w
  g0 : GExt C.G0 G
  gnew : ∀ b o, G b = some o → C.G0 b = some o ∨ C.w0.heap.size ≤ b ∨ C.MV b
  keep : ∀ b c e f, C.w0.heap[b]? = some (.cells c e f) → (∀ κ, C.F (.vec κ) → ¬ Owns C.ρ0 (.vec κ) κ b) →
    ∃ c', w.heap[b]? = some (.cells c' e f) ∧ c'.size = c.size ∧ ∀ k, (∀ κ, C.F (.cell κ k) → blk (C.ρ0 κ) ≠ some b) → c'[k]? = c[k]?
  old : ∀ κ, keyB ≤ κ → ρ κ = C.ρ0 κ
  defers : a.defers = []
  ntmps : a.tmps.size = C.N
  live : ∀ l c κ b, s l = some c → l.key = some κ → Owns ρ l κ b → G b = none ∧ b < w.heap.size ∧ C.may l κ b
  inj : ∀ l c l' c' κ κ' b, s l = some c → s l' = some c' → l.key = some κ → l'.key = some κ' → Owns ρ l κ b → Owns ρ l' κ' b → κ = κ'
  slot : ∀ n x, s (.slot n) = some x → ∃ v y, x = .s y ∧ a.tmps[n]? = some v ∧ SVRep G ρ v y
  cell : ∀ κ k x, s (.cell κ k) = some x → ∃ y b u c e, x = .c y ∧ ρ κ = .pointer (some ⟨b, 0, none⟩) ∧ w.heap[b]? = some (.cells c e (0, 0)) ∧ c[k]? = some u ∧ AtRep G ρ u y
  vec : ∀ κ x, s (.vec κ) = some x → ContRep G w ρ κ x

def Rel (C : Ctx) (s : State) (a : Act) (w : World) : Prop := ∃ G ρ, RelG C G ρ s a w

/-- Fewer facts. -/
theorem Rel.weaken {C : Ctx} {s s' : State} {a : Act} {w : World} (h : Rel C s a w) (hs : ∀ l c, s' l = some c → s l = some c) : Rel C s' a w := by
  obtain ⟨G, ρ, h⟩ := h
  exact ⟨G, ρ, { h with
    live := fun l c κ b hl => h.live l c κ b (hs _ _ hl)
    inj := fun l c l' c' κ κ' b hl hl' => h.inj l c l' c' κ κ' b (hs _ _ hl) (hs _ _ hl')
    slot := fun n x hx => h.slot n x (hs _ _ hx)
    cell := fun κ k x hx => h.cell κ k x (hs _ _ hx)
    vec := fun κ x hx => h.vec κ x (hs _ _ hx) }⟩

theorem Rel.drew {C : Ctx} {s : State} {a : Act} {w : World} (h : Rel C s a w) (n : Nat) : Rel C s a { w with drawn := n } := by
  obtain ⟨G, ρ, h⟩ := h
  exact ⟨G, ρ, { h with vec := fun κ x hx => ContRep.same (w := w) (fun _ _ h => h) (fun _ _ => rfl) (h.vec κ x hx) }⟩

/-! ### 4. Actions and regions -/
structure Action where
  rd : List (Loc × Cont)
  wr : List (Loc × Option Cont)
  new : List Nat

def Action.holds (x : Action) (s : State) : Prop := ∀ l c, (l, c) ∈ x.rd → s l = some c
def Action.fresh (x : Action) (s : State) : Prop := ∀ κ, κ ∈ x.new → ¬ Mentions s κ

def Action.mentions (x : Action) : List Nat :=
  x.new ++ x.rd.flatMap (fun p => p.1.key.toList ++ p.2.keys) ++ x.wr.flatMap (fun p => p.1.key.toList ++ (p.2.map Cont.keys).getD [])

/-- One operation of a region, wanted or not. -/
def StepOK (C : Ctx) (ops : Array Oper) (i : Nat) (x : Action) : Prop :=
  ∀ s a w (K : Act → World → Prop) (Q : Exit → Act → World → Prop), Rel C s a w → x.holds s → x.fresh s → (∀ a' w', Rel C (applys s x.wr) a' w' → K a' w') → wpOp C.P ops Q i K a w

/-- In the text's order. -/
def RunsTo (C : Ctx) (ops : Array Oper) : List (Nat × Action) → State → State → Prop
  | [], s, s' => s = s'
  | (i, x) :: l, s, s' => StepOK C ops i x ∧ x.holds s ∧ x.fresh s ∧ RunsTo C ops l (applys s x.wr) s'

theorem runs_wp {C : Ctx} {ops : Array Oper} {Q : Exit → Act → World → Prop} : ∀ (l : List (Nat × Action)) (s s' : State) (a : Act) (w : World),
    RunsTo C ops l s s' → Rel C s a w → (∀ a' w', Rel C s' a' w' → Q .normal a' w') → wpOps C.P ops Q (l.map (·.1)) a w := by
  intro l
  induction l with
  | nil => intro s s' a w h hr hk; subst h; exact hk _ _ hr
  | cons p l ih =>
    intro s s' a w h hr hk
    obtain ⟨hs, hh, hf, ht⟩ := h
    rw [List.map_cons, wpOps_cons]
    exact hs s a w _ Q hr hh hf fun a' w' hr' => ih _ _ a' w' ht hr' hk

def locsR (x : Action) : List Loc := x.rd.map (·.1)
def locsW (x : Action) : List Loc := x.wr.map (·.1)

/-- Two actions that may come in either order. -/
structure Indep (x y : Action) : Prop where
  ww : ∀ l, l ∈ locsW x → l ∉ locsW y
  wr : ∀ l, l ∈ locsW x → l ∉ locsR y
  rw : ∀ l, l ∈ locsR x → l ∉ locsW y
  nx : ∀ κ, κ ∈ x.new → κ ∉ y.mentions
  ny : ∀ κ, κ ∈ y.new → κ ∉ x.mentions

theorem mentions_applys {wr : List (Loc × Option Cont)} : ∀ {s : State} {κ : Nat}, Mentions (applys s wr) κ → Mentions s κ ∨ κ ∈ wr.flatMap (fun p => p.1.key.toList ++ (p.2.map Cont.keys).getD []) := by
  induction wr with
  | nil => intro s κ h; exact .inl h
  | cons p wr ih =>
    intro s κ h
    rw [applys_cons] at h
    rcases ih h with h | h
    · rcases h with h | ⟨l, c, hc, hκ⟩
      · exact .inl (.inl h)
      by_cases hl : l = p.1
      · subst hl
        rw [upd_same] at hc
        refine .inr ?_
        simp only [List.flatMap_cons, List.mem_append]
        refine .inl ?_
        rcases hκ with hκ | hκ
        · exact .inl (by simp [hκ])
        · exact .inr (by simp [hc, hκ])
      · rw [upd_ne _ _ hl] at hc
        exact .inl (.inr ⟨l, c, hc, hκ⟩)
    · exact .inr (by simp only [List.flatMap_cons, List.mem_append]; exact .inr h)

/-- Each action's reads hold when its turn comes. -/
def RunH : List (Nat × Action) → State → State → Prop
  | [], s, s' => s = s'
  | p :: l, s, s' => p.2.holds s ∧ RunH l (applys s p.2.wr) s'

structure Chain (C : Ctx) (ops : Array Oper) (l : List (Nat × Action)) (s s' : State) : Prop where
  ok : ∀ p, p ∈ l → StepOK C ops p.1 p.2
  fresh : ∀ p, p ∈ l → p.2.fresh s
  apart : l.Pairwise fun p q => ∀ κ, κ ∈ q.2.new → κ ∉ p.2.mentions
  run : RunH l s s'

theorem runH_front {p : Nat × Action} {l2 : List (Nat × Action)} {s' : State} : ∀ (l1 : List (Nat × Action)) (s : State), RunH (l1 ++ p :: l2) s s' → (∀ q, q ∈ l1 → Indep q.2 p.2) →
    p.2.holds s ∧ RunH (l1 ++ l2) (applys s p.2.wr) s' := by
  intro l1
  induction l1 with
  | nil => intro s h _; exact h
  | cons q l1 ih =>
    intro s h hi
    obtain ⟨hq, ht⟩ := h
    obtain ⟨hp, hr⟩ := ih _ ht fun r hr => hi r (by simp [hr])
    have hqp := hi q (by simp)
    have hps : p.2.holds s := fun l c hl => by
      have := hp l c hl
      rwa [applys_other] at this
      intro hw
      exact hqp.wr l hw (List.mem_map.2 ⟨(l, c), hl, rfl⟩)
    refine ⟨hps, ?_, ?_⟩
    · intro l c hl
      rw [applys_other]
      · exact hq l c hl
      · exact hqp.rw l (List.mem_map.2 ⟨(l, c), hl, rfl⟩)
    · rw [applys_comm (fun l hl => fun hl' => hqp.ww l hl' hl)]
      exact hr

theorem mentions_wr (x : Action) {κ : Nat} (h : κ ∈ x.wr.flatMap (fun p => p.1.key.toList ++ (p.2.map Cont.keys).getD [])) : κ ∈ x.mentions := by
  unfold Action.mentions
  exact List.mem_append_right _ h

theorem Chain.front {C : Ctx} {ops : Array Oper} {l1 l2 : List (Nat × Action)} {p : Nat × Action} {s s' : State} (h : Chain C ops (l1 ++ p :: l2) s s') (hi : ∀ q, q ∈ l1 → Indep q.2 p.2) :
    StepOK C ops p.1 p.2 ∧ p.2.holds s ∧ p.2.fresh s ∧ Chain C ops (l1 ++ l2) (applys s p.2.wr) s' := by
  have hmem : ∀ q, q ∈ l1 ++ l2 → q ∈ l1 ++ p :: l2 := fun q hq => by
    rcases List.mem_append.1 hq with h | h
    · exact List.mem_append_left _ h
    · exact List.mem_append_right _ (List.mem_cons_of_mem _ h)
  obtain ⟨hh, hr⟩ := runH_front l1 s h.run hi
  refine ⟨h.ok p (by simp), hh, h.fresh p (by simp), ⟨fun q hq => h.ok q (hmem q hq), ?_, ?_, hr⟩⟩
  · intro q hq κ hκ hm
    rcases mentions_applys hm with hm | hm
    · exact h.fresh q (hmem q hq) κ hκ hm
    · have hm := mentions_wr _ hm
      rcases List.mem_append.1 hq with hq | hq
      · exact (hi q hq).nx κ hκ hm
      · have := (List.pairwise_append.1 h.apart).2.1
        exact (List.pairwise_cons.1 this).1 q hq κ hκ hm
  · have h1 := List.pairwise_append.1 h.apart
    exact List.pairwise_append.2 ⟨h1.1, (List.pairwise_cons.1 h1.2.1).2, fun a ha b hb => h1.2.2 a ha b (List.mem_cons_of_mem _ hb)⟩

/-- The operations that must come ahead. -/
def preds (ops : Array Oper) (i : Nat) : List Nat :=
  match ops[i]? with
  | some o => (o.after.toList.filter fun e => Region.binds .any e).map (·.on)
  | none => []

inductive Reach (ops : Array Oper) (j : Nat) : Nat → Prop where
  | one {i : Nat} (h : j ∈ preds ops i) : Reach ops j i
  | step {i m : Nat} (h : m ∈ preds ops i) (r : Reach ops j m) : Reach ops j i

theorem ready_iff {ops : Array Oper} {listed : Array Bool} {i : Nat} (h : i ∈ Region.ready .any ops listed) :
    i < ops.size ∧ listed.getD i true = false ∧ ∀ m, m ∈ preds ops i → listed.getD m false = true := by
  unfold Region.ready at h
  obtain ⟨h1, h2⟩ := List.mem_filter.1 h
  have hi : i < ops.size := List.mem_range.1 h1
  simp only [Bool.and_eq_true, Bool.not_eq_true'] at h2
  refine ⟨hi, h2.1, fun m hm => ?_⟩
  have ho : ops[i]? = some ops[i] := Array.getElem?_eq_getElem hi
  rw [ho] at h2
  simp only [Option.map_some, Option.getD_some] at h2
  have h3 := Array.all_eq_true'.1 h2.2
  unfold preds at hm
  rw [ho] at hm
  simp only [List.mem_map, List.mem_filter] at hm
  obtain ⟨e, ⟨he, hb⟩, rfl⟩ := hm
  have := h3 e (by simpa using he)
  simpa [hb] using this

theorem ready_of {ops : Array Oper} {listed : Array Bool} {i : Nat} (hi : i < ops.size) (h : listed.getD i true = false) (hp : ∀ m, m ∈ preds ops i → listed.getD m false = true) :
    i ∈ Region.ready .any ops listed := by
  unfold Region.ready
  refine List.mem_filter.2 ⟨List.mem_range.2 hi, ?_⟩
  have ho : ops[i]? = some ops[i] := Array.getElem?_eq_getElem hi
  rw [ho, h]
  simp only [Option.map_some, Option.getD_some, Bool.not_false, Bool.true_and]
  refine Array.all_eq_true'.2 fun e he => ?_
  cases hb : Region.binds .any e with
  | false => rfl
  | true =>
    have := hp e.on (by
      unfold preds
      rw [ho]
      simp only [List.mem_map, List.mem_filter]
      exact ⟨e, ⟨by simpa using he, hb⟩, rfl⟩)
    simpa using this

def left (n : Nat) (listed : Array Bool) : List Nat := (List.range n).filter fun i => !listed.getD i true

theorem getD_set {listed : Array Bool} {i j : Nat} {d : Bool} (hi : i < listed.size) : (listed.setIfInBounds i true).getD j d = if j = i then true else listed.getD j d := by
  by_cases h : j = i
  · subst h; simp [hi]
  · simp [h, Ne.symm h]

theorem chain_any {C : Ctx} {ops : Array Oper} {Q : Exit → Act → World → Prop} {s' : State} (hwf : ∀ i m, m ∈ preds ops i → m < i) (hk : ∀ a' w', Rel C s' a' w' → Q .normal a' w') :
    ∀ (fuel : Nat) (listed : Array Bool) (l : List (Nat × Action)) (s : State) (a : Act) (w : World),
      listed.size = ops.size → l.map (·.1) = left ops.size listed → l.length ≤ fuel →
      (∀ i m, listed.getD i false = true → m ∈ preds ops i → listed.getD m false = true) →
      (l.Pairwise fun p q => Indep p.2 q.2 ∨ Reach ops p.1 q.1) →
      Chain C ops l s s' → Rel C s a w → wpAny C.P .any ops Q fuel listed a w := by
  intro fuel
  have hstop : ∀ (listed : Array Bool) (l : List (Nat × Action)) (s : State) (a : Act) (w : World), listed.size = ops.size → l.map (·.1) = left ops.size listed →
      Region.ready .any ops listed = [] → Chain C ops l s s' → Rel C s a w → Q .normal a w := by
    intro listed l s a w hsz hl hr hc hrel
    cases l with
    | nil => have := hc.run; simp only [RunH] at this; subst this; exact hk _ _ hrel
    | cons p l =>
      exfalso
      have hp : p.1 ∈ left ops.size listed := by rw [← hl]; simp
      obtain ⟨hp1, hp2⟩ := List.mem_filter.1 hp
      have : p.1 ∈ Region.ready .any ops listed := by
        refine ready_of (List.mem_range.1 hp1) (by simpa using hp2) fun m hm => ?_
        -- what is ahead of the first is listed
        have hlt := hwf _ _ hm
        cases hml : listed.getD m false with
        | true => rfl
        | false =>
          exfalso
          have hmn : m < ops.size := Nat.lt_trans hlt (List.mem_range.1 hp1)
          have hm' : m ∈ left ops.size listed := List.mem_filter.2 ⟨List.mem_range.2 hmn, by
            have : m < listed.size := hsz ▸ hmn
            simp [this] at hml ⊢; exact hml⟩
          rw [← hl] at hm'
          have hsorted : (left ops.size listed).Pairwise (· < ·) := List.Pairwise.filter _ List.pairwise_lt_range
          rw [← hl] at hsorted
          simp only [List.map_cons, List.mem_cons] at hm'
          rcases hm' with h | h
          · omega
          · have h10 : p.1 < m := (List.pairwise_cons.1 hsorted).1 m h
            omega
      rw [hr] at this
      simp at this
  induction fuel with
  | zero =>
    intro listed l s a w hsz hl hlen _ _ hc hrel
    have : l = [] := List.eq_nil_of_length_eq_zero (by omega)
    subst this
    have hr : Region.ready .any ops listed = [] := by
      cases hr : Region.ready .any ops listed with
      | nil => rfl
      | cons i r =>
        exfalso
        obtain ⟨h1, h2, _⟩ := ready_iff (by rw [hr]; simp : i ∈ Region.ready .any ops listed)
        have : i ∈ left ops.size listed := List.mem_filter.2 ⟨List.mem_range.2 h1, by simpa using h2⟩
        rw [← hl] at this
        simp at this
    exact ⟨hr, hstop listed [] s a w hsz hl hr hc hrel⟩
  | succ fuel ih =>
    intro listed l s a w hsz hl hlen hcl hpw hc hrel
    refine ⟨fun hr => hstop listed l s a w hsz hl hr hc hrel, fun i hi => ?_⟩
    obtain ⟨h1, h2, h3⟩ := ready_iff hi
    have hil : i ∈ left ops.size listed := List.mem_filter.2 ⟨List.mem_range.2 h1, by simpa using h2⟩
    rw [← hl] at hil
    obtain ⟨p, hp, rfl⟩ := List.mem_map.1 hil
    obtain ⟨l1, l2, rfl⟩ := List.append_of_mem hp
    have hnodup : (left ops.size listed).Nodup := (List.nodup_range).sublist (List.filter_sublist)
    have hisz : p.1 < listed.size := hsz ▸ h1
    -- nothing that is left reaches what is ready
    have hnr : ∀ j, listed.getD j false = false → ¬ Reach ops j p.1 := by
      intro j hj hre
      have key : ∀ i, Reach ops j i → (∀ m, m ∈ preds ops i → listed.getD m false = true) → False := by
        intro i hre
        induction hre with
        | one h => intro hm; have := hm _ h; rw [hj] at this; simp at this
        | step h r ih => intro hm; exact ih fun m' hm' => hcl _ _ (hm _ h) hm'
      exact key _ hre h3
    have hind : ∀ q, q ∈ l1 → Indep q.2 p.2 := by
      intro q hq
      have h4 := (List.pairwise_append.1 hpw).2.2 q hq p (by simp)
      refine h4.resolve_right (hnr _ ?_)
      have hq' : q.1 ∈ left ops.size listed := by rw [← hl]; exact List.mem_map.2 ⟨q, by simp [hq], rfl⟩
      obtain ⟨hq1, hq2⟩ := List.mem_filter.1 hq'
      have : q.1 < listed.size := hsz ▸ List.mem_range.1 hq1
      simp [this] at hq2 ⊢
      exact hq2
    obtain ⟨hs, hh, hf, hc'⟩ := hc.front hind
    refine hs s a w _ Q hrel hh hf fun a' w' hr' => ?_
    refine ih _ (l1 ++ l2) _ a' w' (by simpa using hsz) ?_ (by simp at hlen ⊢; omega) ?_ ?_ hc' hr'
    · -- what is left then
      have h5 : left ops.size (listed.setIfInBounds p.1 true) = (left ops.size listed).filter (fun j => j != p.1) := by
        unfold left
        rw [List.filter_filter]
        refine List.filter_congr fun j hj => ?_
        rw [getD_set hisz]
        by_cases h : j = p.1 <;> simp [h]
      rw [h5, ← hl]
      rw [← hl] at hnodup
      simp only [List.map_append, List.map_cons] at hnodup ⊢
      rw [List.filter_append, List.filter_cons]
      have h6 := List.nodup_append.1 hnodup
      have h7 : (l1.map (·.1)).filter (fun j => j != p.1) = l1.map (·.1) := List.filter_eq_self.2 fun j hj => by
        have := h6.2.2 j hj p.1 (by simp)
        simpa using this
      have h8 : (l2.map (·.1)).filter (fun j => j != p.1) = l2.map (·.1) := List.filter_eq_self.2 fun j hj => by
        have := (List.nodup_cons.1 h6.2.1).1
        simp only [bne_iff_ne, ne_eq]
        rintro rfl
        exact this hj
      rw [h7, h8]
      simp
    · intro j m hj hm
      rw [getD_set hisz] at hj ⊢
      by_cases hjp : j = p.1
      · subst hjp
        split
        · rfl
        · exact h3 m hm
      · rw [if_neg hjp] at hj
        split
        · rfl
        · exact hcl j m hj hm
    · have h9 := List.pairwise_append.1 hpw
      exact List.pairwise_append.2 ⟨h9.1, (List.pairwise_cons.1 h9.2.1).2, fun a ha b hb => h9.2.2 a ha b (List.mem_cons_of_mem _ hb)⟩

/-- A region that draws its order. -/
theorem wp_draw {C : Ctx} {id : Nat} {ops : Array Oper} {Q : Exit → Act → World → Prop} {l : List (Nat × Action)} {s s' : State} {a : Act} {w : World} (hm : C.P.follows .mixedOrders = true)
    (hwf : ∀ i m, m ∈ preds ops i → m < i) (hl : l.map (·.1) = List.range ops.size) (hpw : l.Pairwise fun p q => Indep p.2 q.2 ∨ Reach ops p.1 q.1)
    (hc : Chain C ops l s s') (hrel : Rel C s a w) (hk : ∀ a' w', Rel C s' a' w' → Q .normal a' w') : (Code.region id ops true).wp C.P Q a w := by
  refine wp_region_any hm (chain_any hwf hk ops.size _ l s a _ (by simp) ?_ ?_ ?_ hpw hc (hrel.drew _))
  · rw [hl]
    unfold left
    rw [List.filter_eq_self.2]
    intro i hi
    have := List.mem_range.1 hi
    simp [this]
  · have := congrArg List.length hl
    simp at this
    omega
  · intro i m hi
    simp only [Array.getD_eq_getD_getElem?, Array.getElem?_replicate] at hi
    split at hi <;> simp at hi

theorem wp_text {C : Ctx} {id : Nat} {ops : Array Oper} {Q : Exit → Act → World → Prop} {l : List (Nat × Action)} {s s' : State} {a : Act} {w : World}
    (hl : l.map (·.1) = List.range ops.size) (hr : RunsTo C ops l s s') (hrel : Rel C s a w) (hk : ∀ a' w', Rel C s' a' w' → Q .normal a' w') : (Code.region id ops false).wp C.P Q a w :=
  wp_region (by rw [← hl]; exact runs_wp l s s' a w hr hrel hk)

end Go.AM
