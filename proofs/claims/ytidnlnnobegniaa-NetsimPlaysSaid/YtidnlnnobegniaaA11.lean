import Derived.Test.YtidnlnnobegniaaMA
set_option linter.unusedVariables false
set_option linter.unusedSimpArgs false
namespace Go.AM
open Go.RowKit

/-! ### 13. States as lists, and a region's run by reckoning -/
abbrev L := List (Loc × Cont)

def look : L → Loc → Option Cont
  | [], _ => none
  | (l, c) :: r, x => if x = l then some c else look r x

def put (σ : L) (l : Loc) (c : Cont) : L := (l, c) :: σ

def del : L → Loc → L
  | [], _ => []
  | (l', c') :: r, l => if l = l' then del r l else (l', c') :: del r l

def applyL : L → List (Loc × Option Cont) → L
  | σ, [] => σ
  | σ, (l, some c) :: r => applyL (put σ l c) r
  | σ, (l, none) :: r => applyL (del σ l) r

theorem look_put (σ : L) (l : Loc) (c : Cont) : look (put σ l c) = upd (look σ) l (some c) := by
  funext x
  simp only [put, look, upd]

theorem look_del (σ : L) (l : Loc) : look (del σ l) = upd (look σ) l none := by
  funext x
  induction σ with
  | nil => simp [del, look, upd]
  | cons p r ih =>
    obtain ⟨l', c'⟩ := p
    simp only [del]
    split
    · rename_i h; subst h; rw [ih]; simp only [look, upd]; by_cases h1 : x = l <;> simp [h1]
    · rename_i h
      simp only [look, ih, upd]
      by_cases h1 : x = l' <;> by_cases h2 : x = l <;> simp_all

theorem look_applyL : ∀ (wr : List (Loc × Option Cont)) (σ : L), look (applyL σ wr) = applys (look σ) wr
  | [], σ => rfl
  | (l, some c) :: r, σ => by rw [applyL, look_applyL r, look_put, applys_cons]
  | (l, none) :: r, σ => by rw [applyL, look_applyL r, look_del, applys_cons]

/-- The keys that a list speaks of. -/
def keysL : L → List Nat
  | [] => []
  | (l, c) :: r => l.key.toList ++ c.keys ++ keysL r

theorem keysL_mentions {σ : L} {κ : Nat} (h : Mentions (look σ) κ) (hB : κ < keyB) : κ ∈ keysL σ := by
  obtain ⟨l, c, hl, hk⟩ := h.resolve_left (by omega)
  clear h
  induction σ with
  | nil => simp [look] at hl
  | cons p r ih =>
    obtain ⟨l', c'⟩ := p
    simp only [look] at hl
    simp only [keysL, List.mem_append]
    split at hl
    · rename_i e
      injection hl with hl
      subst hl; subst e
      rcases hk with hk | hk
      · exact .inl (.inl (by simp [hk]))
      · exact .inl (.inr hk)
    · exact .inr (ih hl)

def notIn (κ : Nat) : List Nat → Bool
  | [] => true
  | x :: r => if κ = x then false else notIn κ r
theorem notIn_spec {κ : Nat} : ∀ {l : List Nat}, notIn κ l = true → κ ∉ l
  | [], _ => by simp
  | x :: r, h => by
    simp only [notIn] at h
    split at h
    · simp at h
    · rename_i hne
      simp only [List.mem_cons, not_or]
      exact ⟨hne, notIn_spec h⟩

/-- A key that isn't spoken of. -/
def freshKey (σ : L) (n : Nat) : Option Nat :=
  if n < 97000 then (if notIn n (keysL σ) then some n else if notIn (n + 1000) (keysL σ) then some (n + 1000) else if notIn (n + 2000) (keysL σ) then some (n + 2000) else none) else none

theorem freshKey_spec {σ : L} {n κ : Nat} (h : freshKey σ n = some κ) : ¬ Mentions (look σ) κ := by
  unfold freshKey at h
  split at h
  case isFalse => simp at h
  rename_i hB
  have hlt : κ < keyB := by
    unfold keyB
    split at h
    · injection h with h; omega
    · split at h
      · injection h with h; omega
      · split at h
        · injection h with h; omega
        · simp at h
  intro hm
  have hk := keysL_mentions hm hlt
  split at h
  · rename_i h1; injection h with h; subst h; exact notIn_spec h1 hk
  · split at h
    · rename_i h1; injection h with h; subst h; exact notIn_spec h1 hk
    · split at h
      · rename_i h1; injection h with h; subst h; exact notIn_spec h1 hk
      · simp at h

def dstB (N : Nat) : Option Nat → Bool
  | none => true
  | some n => decide (n < N)

theorem dstB_ok {C : Ctx} {d : Option Nat} (h : dstB C.N d = true) : dstOK C d := by
  intro n hn
  subst hn
  simpa [dstB] using h

def dstN : Option Nat → Nat
  | none => 999
  | some n => n

/-! #### operation by operation -/
def act1 (P : Program) (σ : L) (o : Oper) (x : Operand) : Option Action :=
  match ev (look σ) x with
  | some y => some ⟨evr (look σ) x, wrD o.dst y, []⟩
  | none => none

def actPick (σ : L) (o : Oper) (c x z : Operand) : Option Action :=
  match ev (look σ) c with
  | some yc => match litB yc with
    | some b => match ev (look σ) (if b then x else z) with
      | some y => some ⟨evr (look σ) c ++ evr (look σ) (if b then x else z), wrD o.dst y, []⟩
      | none => none
    | none => none
  | none => none

def actNil (σ : L) (o : Oper) (x : Operand) : Option Action :=
  match evp (look σ) x with
  | some (.v (.one (.ptr κ off))) => some ⟨evr (look σ) x, wrD o.dst (.v (.one (.ptr κ off))), []⟩
  | some (.v (.one (.vptr κ sz i k))) => some ⟨evr (look σ) x, wrD o.dst (.v (.one (.vptr κ sz i k))), []⟩
  | some (.v (.one (.tptr cs))) => some ⟨evr (look σ) x, wrD o.dst (.v (.one (.tptr cs))), []⟩
  | _ => none

def actBin (P : Program) (σ : L) (o : Oper) (op : BinOp) (t : TypeId) (x z : Operand) : Option Action :=
  match tinfo P t with
  | none => none
  | some i => match ev (look σ) x with
    | none => none
    | some yx => match ev (look σ) z with
      | none => none
      | some yz => match litV yx with
        | none => none
        | some vx => match litV yz with
          | none => none
          | some vz => match binv i.k op vx vz with
            | none => none
            | some v => some ⟨evr (look σ) x ++ evr (look σ) z, wrD o.dst (sv v), []⟩

/-- A pointer to something, held against nil. -/
def isAt : SV → Bool
  | .v (.one (.ptr _ _)) => true
  | .v (.one (.tptr _)) => true
  | .v (.one (.t (.ptr _))) => true
  | _ => false
def actPtrNil (P : Program) (σ : L) (o : Oper) (op : BinOp) (t : TypeId) (x z : Operand) : Option Action :=
  match tinfo P t with
  | none => none
  | some i => match i.k with
    | .ptr _ => match ev (look σ) x with
      | none => none
      | some yx => match isAt yx with
        | true => match ev (look σ) z with
          | some (.v (.one (.t (.lit (.pointer none))))) => match op with
            | .eql => some ⟨evr (look σ) x ++ evr (look σ) z, wrD o.dst (sv (.bool false)), []⟩
            | .neq => some ⟨evr (look σ) x ++ evr (look σ) z, wrD o.dst (sv (.bool true)), []⟩
            | _ => none
          | _ => none
        | false => none
    | _ => none

/-- What a function value captures: trees. -/
def capsL (g : State) : List Operand → Option (List T × List (Loc × Cont))
  | [] => some ([], [])
  | x :: xs => match ev g x with
    | some (.v (.one (.t t))) => match capsL g xs with
      | some (ts, rd) => some (t :: ts, evr g x ++ rd)
      | none => none
    | some (.v (.one (.tptr cs))) => match capsL g xs with
      | some (ts, rd) => some (.ptr cs :: ts, evr g x ++ rd)
      | none => none
    | _ => none
def actFunc (σ : L) (o : Oper) (fn : Fn) (first caps : Array Operand) : Option Action :=
  match fn with
  | .func f => match first.toList with
    | [] => match capsL (look σ) caps.toList with
      | some (ts, rd) => some ⟨rd, wrD o.dst (.v (.one (.t (.fn f ts)))), []⟩
      | none => none
    | _ => none
  | _ => none

def actUn (σ : L) (o : Oper) (op : UnOp) (x : Operand) : Option Action :=
  match ev (look σ) x with
  | none => none
  | some yx => match litV yx with
    | none => none
    | some vx => match unv op vx with
      | none => none
      | some v => some ⟨evr (look σ) x, wrD o.dst (sv v), []⟩

def actEqS (P : Program) (σ : L) (o : Oper) (op : BinOp) (t : TypeId) (x z : Operand) : Option Action :=
  match tinfo P t with
  | none => none
  | some i => match i.k with
    | .struct fs => if i.eqok = true then match ev (look σ) x with
      | some (.v (.agg cs)) => match ev (look σ) z with
        | some (.v (.agg ds)) => match litsOf cs with
          | none => none
          | some xs => match litsOf ds with
            | none => none
            | some ys => if fieldsPlain 0 fs = true then if kindsOK P fs xs = true then if kindsOK P fs ys = true then match eqAll (xs.zip ys) with
              | none => none
              | some b => match eqop op b with
                | none => none
                | some c => some ⟨evr (look σ) x ++ evr (look σ) z, wrD o.dst (sv (.bool c)), []⟩
              else none else none else none
        | _ => none
      | _ => none else none
    | _ => none

def isStruct (P : Program) (t : TypeId) : Bool :=
  match tinfo P t with
  | some i => match i.k with
    | .struct _ => true
    | _ => false
  | none => false

def bytesOf : List (List T) → Option (List Int)
  | [] => some []
  | [.lit (.int .u8 n)] :: r => (bytesOf r).map (n :: ·)
  | _ :: _ => none
theorem bytesOf_spec : ∀ {rows : List (List T)} {xs : List Int}, bytesOf rows = some xs → rows = byteRows xs
  | [], xs, h => by simp [bytesOf] at h; subst h; rfl
  | c :: cs, xs, h => by
    unfold bytesOf at h
    split at h
    · rename_i h0; simp at h0
    · rename_i n r h0
      injection h0 with h1 h2
      subst h1; subst h2
      simp only [Option.map_eq_some_iff] at h
      obtain ⟨vs', h1, rfl⟩ := h
      rw [bytesOf_spec h1]; rfl
    · simp at h

theorem bytesOf_rows : ∀ (xs : List Int), bytesOf (byteRows xs) = some xs
  | [] => rfl
  | x :: xs => by
    have := bytesOf_rows xs
    simp only [byteRows] at this
    simp [byteRows, bytesOf, this]

def actText (P : Program) (σ : L) (o : Oper) (src dst : TypeId) (x : Operand) : Option Action :=
  match tinfo P src with
  | none => none
  | some i => match i.k with
    | .slice e => match tinfo P dst with
      | none => none
      | some j => match j.k with
        | .string => match tinfo P e with
          | none => none
          | some k => match k.k with
            | .int .u8 => match ev (look σ) x with
              | some (.v (.one (.t (.sl 1 rows)))) => match bytesOf rows with
                | some xs => some ⟨evr (look σ) x, wrD o.dst (sv (.string (strOfNums xs))), []⟩
                | none => none
              | some (.v (.one (.t (.lit (.slice none 0 0))))) => some ⟨evr (look σ) x, wrD o.dst (sv (.string (strOfNums []))), []⟩
              | _ => none
            | _ => none
        | _ => none
    | _ => none

def isSlice (P : Program) (t : TypeId) : Bool :=
  match tinfo P t with
  | some i => match i.k with
    | .slice _ => true
    | _ => false
  | none => false

def actConv (P : Program) (σ : L) (o : Oper) (src dst : TypeId) (x : Operand) : Option Action :=
  match tinfo P src with
  | none => none
  | some i => match tinfo P dst with
    | none => none
    | some j => match j.k with
      | .int k => match ev (look σ) x with
        | none => none
        | some yx => match litV yx with
          | some (.int k' n) => some ⟨evr (look σ) x, wrD o.dst (sv (.int k (k.wrap n))), []⟩
          | _ => none
      | _ => none

def actExtract (σ : L) (o : Oper) (x : Operand) (ix : Nat) : Option Action :=
  match ev (look σ) x with
  | some (.tup xs) => match xs[ix]? with
    | some y => some ⟨evr (look σ) x, wrD o.dst (.v y), []⟩
    | none => none
  | _ => none

def actFieldAddr (P : Program) (σ : L) (o : Oper) (t : TypeId) (x : Operand) (f : Nat) : Option Action :=
  match tinfo P t with
  | none => none
  | some i => match i.k with
    | .struct fs => match fs[f]? with
      | none => none
      | some (off, ft) => match tinfo P ft with
        | none => none
        | some j => if j.size = 0 then none else match evp (look σ) x with
          | some (.v (.one (.ptr κ k))) => some ⟨evr (look σ) x, wrD o.dst (.v (.one (.ptr κ (k + off)))), []⟩
          | some (.v (.one (.vptr κ sz i k))) => some ⟨evr (look σ) x, wrD o.dst (.v (.one (.vptr κ sz i (k + off)))), []⟩
          | some (.v (.one (.tptr cs))) => some ⟨evr (look σ) x, wrD o.dst (.v (.one (.tptr (cs.drop off)))), []⟩
          | _ => none
    | _ => none

def actField (P : Program) (σ : L) (o : Oper) (t : TypeId) (x : Operand) (f : Nat) : Option Action :=
  match tinfo P t with
  | none => none
  | some i => match i.k with
    | .struct fs => match fs[f]? with
      | none => none
      | some (off, ft) => match tinfo P ft with
        | none => none
        | some j => match ev (look σ) x with
          | some (.v (.agg cs)) => if ((cs.drop off).take j.size).length = j.size then match mkV j.agg ((cs.drop off).take j.size) with
            | some y => some ⟨evr (look σ) x, wrD o.dst (.v y), []⟩
            | none => none else none
          | _ => none
    | _ => none

def sameV : Value → Value → Bool
  | .int k n, .int k' m => decide (k = k' ∧ n = m)
  | .bool a, .bool b => a == b
  | _, _ => false
theorem sameV_spec {u v : Value} (h : sameV u v = true) : u = v := by
  unfold sameV at h
  split at h
  · obtain ⟨rfl, rfl⟩ := of_decide_eq_true h; rfl
  · simp at h; subst h; rfl
  · simp at h
def sameVs : List Value → List Value → Bool
  | [], [] => true
  | u :: us, v :: vs => sameV u v && sameVs us vs
  | _, _ => false
theorem sameVs_spec : ∀ {us vs : List Value}, sameVs us vs = true → us = vs
  | [], [], _ => rfl
  | [], _ :: _, h => by simp [sameVs] at h
  | _ :: _, [], h => by simp [sameVs] at h
  | u :: us, v :: vs, h => by
    simp only [sameVs, Bool.and_eq_true] at h
    rw [sameV_spec h.1, sameVs_spec h.2]

def actAlloc (P : Program) (σ : L) (o : Oper) (t : TypeId) : Option Action :=
  match tinfo P t with
  | none => none
  | some i => match i.k with
    | .array n e => match tinfo P e with
      | some j => if sameVs i.zero (List.replicate n j.zero).flatten = true ∧ j.zero.all (·.oneCell') = true ∧ j.zero.length = j.size ∧ n ≤ 1000000 then match freshKey σ (dstN o.dst) with
        | some κ => some ⟨[], [(.vec κ, some (.r j.size t (List.replicate n (j.zero.map .lit))))] ++ wrD o.dst (.v (.one (.vptr κ j.size 0 0))), [κ]⟩
        | none => none else none
      | none => none
    | _ => if i.zero.all (·.oneCell') = true then match freshKey σ (dstN o.dst) with
      | some κ => some ⟨[], mkVar κ 0 (lits i.zero) ++ wrD o.dst (.v (.one (.ptr κ 0))), [κ]⟩
      | none => none else none

def keysOf : List At → List Nat
  | [] => []
  | c :: r => c.keys ++ keysOf r
theorem keysOf_mem {κ : Nat} : ∀ {cs : List At}, κ ∉ keysOf cs → ∀ c, c ∈ cs → κ ∉ c.keys
  | [], _, c, h => by simp at h
  | x :: r, h, c, hc => by
    simp only [keysOf, List.mem_append, not_or] at h
    rcases List.mem_cons.1 hc with rfl | hc
    · exact h.1
    · exact keysOf_mem h.2 c hc

def actBox (σ : L) (o : Oper) (x : Operand) : Option Action :=
  match ev (look σ) x with
  | some (.v y) => match freshKey σ (dstN o.dst) with
    | some κ => if notIn κ (keysOf y.cs) then some ⟨evr (look σ) x, mkVar κ 0 y.cs ++ wrD o.dst (.v (.one (.ptr κ 0))), [κ]⟩ else none
    | none => none
  | _ => none

def actLoad (P : Program) (σ : L) (o : Oper) (t : TypeId) (x : Operand) : Option Action :=
  match tinfo P t with
  | none => none
  | some i => if i.size = 0 then none else match evp (look σ) x with
    | some (.v (.one (.ptr κ off))) => match takeC (look σ) κ off i.size with
      | some ys => match mkV i.agg ys with
        | some y => some ⟨evr (look σ) x ++ cellsR κ off ys, wrD o.dst (.v y), []⟩
        | none => none
      | none => none
    | some (.v (.one (.tptr cs))) => if (cs.take i.size).length = i.size then match mkV i.agg (trees (cs.take i.size)) with
      | some y => some ⟨evr (look σ) x, wrD o.dst (.v y), []⟩
      | none => none else none
    | some (.v (.one (.vptr κ sz ix k))) => match look σ (.vec κ) with
      | some (.r sz' e rows) => if sz = sz' then match rows[ix]? with
        | some cells => if ((cells.drop k).take i.size).length = i.size then match mkV i.agg (trees ((cells.drop k).take i.size)) with
          | some y => some ⟨evr (look σ) x ++ [(.vec κ, .r sz e rows)], wrD o.dst (.v y), []⟩
          | none => none else none
        | none => none else none
      | _ => none
    | _ => none

def treesOf : List At → Option (List T)
  | [] => some []
  | .t x :: r => (treesOf r).map (x :: ·)
  | _ :: _ => none
theorem treesOf_spec : ∀ {cs : List At} {ts : List T}, treesOf cs = some ts → cs = trees ts
  | [], ts, h => by simp [treesOf] at h; subst h; rfl
  | c :: cs, ts, h => by
    cases c with
    | t x =>
      simp only [treesOf, Option.map_eq_some_iff] at h
      obtain ⟨ts', h1, rfl⟩ := h
      rw [treesOf_spec h1]; rfl
    | _ => simp [treesOf] at h

def actStore (P : Program) (σ : L) (o : Oper) (t : TypeId) (x z : Operand) : Option Action :=
  match o.dst with
  | some _ => none
  | none => match tinfo P t with
    | none => none
    | some i => if i.size = 0 then none else match ev (look σ) z with
      | some (.v y) => if y.cs.length = i.size then match ev (look σ) x with
        | some (.v (.one (.ptr κ off))) => match takeC (look σ) κ off i.size with
          | some old => some ⟨evr (look σ) x ++ evr (look σ) z ++ cellsR κ off old, cellsW κ off y.cs, []⟩
          | none => none
        | some (.v (.one (.vptr κ sz ix k))) => match treesOf y.cs with
          | some ts => match look σ (.vec κ) with
            | some (.r sz' e rows) => if sz = sz' then match rows[ix]? with
              | some cells => if k + i.size ≤ cells.length then some ⟨evr (look σ) x ++ evr (look σ) z ++ [(.vec κ, .r sz e rows)], [(.vec κ, some (.r sz e (rows.set ix (cells.take k ++ ts ++ cells.drop (k + i.size)))))], []⟩ else none
              | none => none else none
            | _ => none
          | none => none
        | _ => none else none
      | _ => none

def actIndex (P : Program) (σ : L) (o : Oper) (t : TypeId) (x z : Operand) : Option Action :=
  match tinfo P t with
  | none => none
  | some i => match ev (look σ) z with
    | none => none
    | some yz => match litV yz with
      | some (.int k ix) => if 0 ≤ ix then match i.k with
        | .slice e => match tinfo P e with
          | none => none
          | some j => match ev (look σ) x with
            | some (.v (.one (.t (.sl sz rows)))) => if sz = j.size then match rows[ix.toNat]? with
              | some cells => some ⟨evr (look σ) x ++ evr (look σ) z, wrD o.dst (.v (.one (.tptr cells))), []⟩
              | none => none else none
            | some (.v (.one (.row κ))) => match look σ (.vec κ) with
              | some (.r sz et rows) => if sz = j.size then if ix.toNat < rows.length then some ⟨evr (look σ) x ++ evr (look σ) z ++ [(.vec κ, .r j.size et rows)], wrD o.dst (.v (.one (.vptr κ j.size ix.toNat 0))), []⟩ else none else none
              | _ => none
            | _ => none
        | .array n e => match tinfo P e with
          | none => none
          | some j => match ev (look σ) x with
            | some (.v (.one (.vptr κ sz 0 0))) => if sz = j.size then if ix < n then some ⟨evr (look σ) x ++ evr (look σ) z, wrD o.dst (.v (.one (.vptr κ j.size ix.toNat 0))), []⟩ else none else none
            | _ => none
        | _ => none else none
      | _ => none

def actLen (P : Program) (σ : L) (o : Oper) (t : TypeId) (x : Operand) : Option Action :=
  match tinfo P t with
  | none => none
  | some i => match i.k with
    | .slice _ => match ev (look σ) x with
      | some (.v (.one (.t (.sl sz rows)))) => some ⟨evr (look σ) x, wrD o.dst (sv (.int .i64 rows.length)), []⟩
      | some (.v (.one (.t (.lit (.slice none 0 0))))) => some ⟨evr (look σ) x, wrD o.dst (sv (.int .i64 0)), []⟩
      | some (.v (.one (.row κ))) => match look σ (.vec κ) with
        | some (.r sz e rows) => some ⟨evr (look σ) x ++ [(.vec κ, .r sz e rows)], wrD o.dst (sv (.int .i64 rows.length)), []⟩
        | _ => none
      | _ => none
    | _ => none

def actMx (σ : L) (o : Oper) (mx : Bool) (x z : Operand) : Option Action :=
  match ev (look σ) x with
  | none => none
  | some yx => match ev (look σ) z with
    | none => none
    | some yz => match litV yx with
      | none => none
      | some vx => match litV yz with
        | none => none
        | some vz => match mxv mx vx vz with
          | none => none
          | some v => some ⟨evr (look σ) x ++ evr (look σ) z, wrD o.dst (sv v), []⟩

def srcL (σ : L) (x : Operand) (sz : Nat) : Option (List (List T) × List (Loc × Cont)) :=
  match ev (look σ) x with
  | some (.v (.one (.t (.sl sz' rows)))) => if sz = sz' then some (rows, evr (look σ) x) else none
  | some (.v (.one (.t (.lit (.slice none 0 0))))) => some ([], evr (look σ) x)
  | some (.v (.one (.row κ))) => match look σ (.vec κ) with
    | some (.r sz' e rows) => if sz = sz' then some (rows, evr (look σ) x ++ [(.vec κ, .r sz' e rows)]) else none
    | _ => none
  | some (.v (.one (.part κ sz1 lo n))) => match look σ (.vec κ) with
    | some (.r sz' e rows) => if sz = sz' then if sz1 = sz' then some ((rows.drop lo).take n, evr (look σ) x ++ [(.vec κ, .r sz' e rows)]) else none else none
    | _ => none
  | _ => none

def actAppend (P : Program) (σ : L) (o : Oper) (x z : Operand) (t u : TypeId) : Option Action :=
  match tinfo P t with
  | none => none
  | some i => match i.k with
    | .slice e => match tinfo P u with
      | none => none
      | some iu => match iu.k with
        | .slice _ => match tinfo P e with
          | none => none
          | some j => if j.size = 0 then none else match srcL σ z j.size with
            | none => none
            | some (xr, rd) => match freshKey σ (dstN o.dst) with
              | none => none
              | some κ' => match ev (look σ) x with
                | some (.v (.one (.t (.lit (.slice none 0 0))))) => if xr.length ≤ 140737488355328 ∧ xr.length * j.bytes ≤ 140737488355328 then some ⟨evr (look σ) x ++ rd, [(.vec κ', some (.r j.size e xr))] ++ wrD o.dst (.v (.one (.row κ'))), [κ']⟩ else none
                | some (.v (.one (.row κ))) => match look σ (.vec κ) with
                  | some (.r sz et rows) => if sz = j.size ∧ et = e then if rows.length + xr.length ≤ 140737488355328 ∧ (rows.length + xr.length) * j.bytes ≤ 140737488355328 then
                      some ⟨evr (look σ) x ++ [(.vec κ, .r j.size e rows)] ++ rd, [(.vec κ, none), (.vec κ', some (.r j.size e (rows ++ xr)))] ++ wrD o.dst (.v (.one (.row κ'))), [κ']⟩ else none else none
                  | _ => none
                | _ => none
        | _ => none
    | _ => none

def actMake (P : Program) (σ : L) (o : Oper) (t : TypeId) (x z : Operand) : Option Action :=
  match tinfo P t with
  | none => none
  | some i => match i.k with
    | .slice e => match tinfo P e with
      | none => none
      | some j => if j.zero.all (·.oneCell') = true then match ev (look σ) x with
        | none => none
        | some yx => match ev (look σ) z with
          | none => none
          | some yz => match litV yx with
            | some (.int k n) => match litV yz with
              | some (.int k' n') => if n = n' ∧ 0 ≤ n ∧ n ≤ 140737488355328 ∧ n * j.bytes ≤ 281474976710656 then match freshKey σ (dstN o.dst) with
                | some κ => some ⟨evr (look σ) x ++ evr (look σ) z, [(.vec κ, some (.r j.size e (List.replicate n.toNat (j.zero.map .lit))))] ++ wrD o.dst (.v (.one (.row κ))), [κ]⟩
                | none => none else none
              | _ => none
            | _ => none else none
    | _ => none

def actBuild (P : Program) (σ : L) (o : Oper) (t : TypeId) (ps : Array (Nat × Operand)) : Option Action :=
  match tinfo P t with
  | none => none
  | some i => match i.k with
    | .struct _ => if i.zero.all (·.oneCell') = true then match parts (look σ) ps.toList with
      | some (ys, rd) => match fillAt i.places (lits i.zero) ys with
        | some cs => some ⟨rd, wrD o.dst (.v (.agg cs)), []⟩
        | none => none
      | none => none else none
    | _ => none

def actBuildSlice (P : Program) (σ : L) (o : Oper) (t : TypeId) (n : Nat) (ps : Array (Nat × Operand)) : Option Action :=
  match tinfo P t with
  | none => none
  | some i => match i.k with
    | .slice e => match tinfo P e with
      | none => none
      | some j => if j.size = 0 then none else if n * j.size ≤ 16777216 then if j.zero.all (·.oneCell') = true then match parts (look σ) ps.toList with
        | some (ys, rd) => match fillRows j.size (List.replicate n (j.zero.map .lit)) ys with
          | some rows => match freshKey σ (dstN o.dst) with
            | some κ => some ⟨rd, [(.vec κ, some (.r j.size e rows))] ++ wrD o.dst (.v (.one (.row κ))), [κ]⟩
            | none => none
          | none => none
        | none => none else none else none
    | _ => none

def boundL (σ : L) : Option Operand → Nat → Option (Nat × List (Loc × Cont))
  | none, d => some (d, [])
  | some z, _ => match ev (look σ) z with
    | none => none
    | some yz => match litV yz with
      | some (.int _ n) => if 0 ≤ n then some (n.toNat, evr (look σ) z) else none
      | _ => none

def actSlice (P : Program) (σ : L) (o : Oper) (t : TypeId) (x : Operand) (lo hi : Option Operand) : Option Action :=
  match tinfo P t with
  | none => none
  | some i => match i.k with
    | .slice e => match tinfo P e with
      | none => none
      | some j => match ev (look σ) x with
        | some (.v (.one (.t (.sl sz rows)))) => if sz = j.size then match boundL σ lo 0 with
          | none => none
          | some (l, rl) => match boundL σ hi rows.length with
            | none => none
            | some (h, rh) => if l ≤ h then if h ≤ rows.length then some ⟨evr (look σ) x ++ rl ++ rh, wrD o.dst (.v (.one (.t (.sl j.size ((rows.take h).drop l))))), []⟩ else none else none else none
        | _ => none
    | _ => none

def actCopy (P : Program) (σ : L) (o : Oper) (x z : Operand) (t : TypeId) : Option Action :=
  match tinfo P t with
  | none => none
  | some i => match i.k with
    | .slice e => match tinfo P e with
      | none => none
      | some j => if j.size = 1 then match srcL σ z 1 with
        | none => none
        | some (xr, rd) => match ev (look σ) x with
          | some (.v (.one (.row κ))) => match look σ (.vec κ) with
            | some (.r 1 e' rows) => if xr.length = rows.length then some ⟨evr (look σ) x ++ [(.vec κ, .r 1 e' rows)] ++ rd, [(.vec κ, some (.r 1 e' xr))] ++ wrD o.dst (sv (.int .i64 xr.length)), []⟩ else none
            | _ => none
          | _ => none else none
    | _ => none

def actCall (P : Program) (σ : L) (o : Oper) (c : Call) : Option Action :=
  match c.callee with
  | .builtin .len => match c.args.toList with
    | [x] => match c.argTypes.toList with
      | [t] => actLen P σ o t x
      | _ => none
    | _ => none
  | .builtin .max => match c.args.toList with
    | [x, z] => match c.argTypes.toList with
      | [_, _] => actMx σ o true x z
      | _ => none
    | _ => none
  | .builtin .min => match c.args.toList with
    | [x, z] => match c.argTypes.toList with
      | [_, _] => actMx σ o false x z
      | _ => none
    | _ => none
  | .builtin .copy => match c.args.toList with
    | [x, z] => match c.argTypes.toList with
      | [t, _] => actCopy P σ o x z t
      | _ => none
    | _ => none
  | .builtin .append => match c.args.toList with
    | [x, z] => match c.argTypes.toList with
      | [t, u] => actAppend P σ o x z t u
      | _ => none
    | _ => none
  | _ => none

/-! #### maps, rows of rows -/
def keyC (g : State) (z : Operand) : Option (Int × Int) :=
  match ev g z with
  | some (.v (.agg [.t (.lit (.int .i64 x)), .t (.lit (.int .i64 y))])) => some (x, y)
  | _ => none

def mapTag (P : Program) (v : TypeId) : Option Tag :=
  match tinfo P v with
  | some i => match i.k with
    | .int .i64 => some (.cuts fun _ _ => 0)
    | .slice e => match tinfo P e with
      | some j => match j.k with
        | .slice eb => some (.qs e eb (fun _ _ => []) .none)
        | _ => none
      | none => none
    | _ => none
  | none => none

def mapOf (P : Program) (t : TypeId) : Option TypeId :=
  match tinfo P t with
  | some i => match i.k with
    | .map k v => if pairT P k = true then some v else none
    | _ => none
  | none => none

def actMakeMap (P : Program) (σ : L) (o : Oper) (t : TypeId) : Option Action :=
  match mapOf P t with
  | some v => match mapTag P v with
    | some g => match freshKey σ (dstN o.dst) with
      | some κ => some ⟨[], [(.vec κ, some (.o g []))] ++ wrD o.dst (.v (.one (.obj κ))), [κ]⟩
      | none => none
    | none => none
  | none => none

def isZI : Option Value → Bool
  | some (.int .i64 0) => true
  | _ => false
def isZS : Option Value → Bool
  | some (.slice none 0 0) => true
  | _ => false
theorem isZI_spec {v : Option Value} (h : isZI v = true) : v = some (.int .i64 0) := by
  unfold isZI at h
  split at h
  · rfl
  · simp at h
theorem isZS_spec {v : Option Value} (h : isZS v = true) : v = some (.slice none 0 0) := by
  unfold isZS at h
  split at h
  · rfl
  · simp at h

def actLookup (P : Program) (σ : L) (o : Oper) (t : TypeId) (m z : Operand) : Option Action :=
  match mapOf P t with
  | some v => match ev (look σ) m with
    | some (.v (.one (.obj κ))) => match keyC (look σ) z with
      | some p => match look σ (.vec κ) with
        | some (.o (.cuts S) ks) => if isZI (zeroOf P v) = true then some ⟨evr (look σ) m ++ evr (look σ) z ++ [(.vec κ, .o (.cuts S) ks)], wrD o.dst (sv (.int .i64 (S p.1 p.2))), []⟩ else none
        | some (.o (.qs e eb Q (.entry x y)) [κr]) => if isZS (zeroOf P v) = true then if p.1 = x ∧ p.2 = y then some ⟨evr (look σ) m ++ evr (look σ) z ++ [(.vec κ, .o (.qs e eb Q (.entry x y)) [κr])], wrD o.dst (.v (.one (.row κr))), []⟩ else none else none
        | some (.o (.qs e eb Q hh) ks) => if isZS (zeroOf P v) = true then if isOwn (hh.at p.1 p.2) = true then some ⟨evr (look σ) m ++ evr (look σ) z ++ [(.vec κ, .o (.qs e eb Q hh) ks)], wrD o.dst (.v (.one (.slen (Q p.1 p.2).length))), []⟩ else none else none
        | _ => none
      | none => none
    | _ => none
  | none => none

def actMapEntry (P : Program) (σ : L) (o : Oper) (t : TypeId) (m z : Operand) : Option Action :=
  match mapOf P t with
  | some v => match ev (look σ) m with
    | some (.v (.one (.obj κ))) => match keyC (look σ) z with
      | some p => match look σ (.vec κ) with
        | some (.o (.qs e eb Q (.entry x y)) [κr]) => if isZS (zeroOf P v) = true then if p.1 = x ∧ p.2 = y then match freshKey σ (dstN o.dst) with
          | some κs => some ⟨evr (look σ) m ++ evr (look σ) z ++ [(.vec κ, .o (.qs e eb Q (.entry x y)) [κr])], [(.vec κ, some (.o (.qs e eb Q (.stamp x y)) [κr, κs]))] ++ wrD o.dst (.tup [.one (.row κr), .one (.obj κs)]), [κs]⟩
          | none => none else none else none
        | _ => none
      | none => none
    | _ => none
  | none => none

def actEntryStore (σ : L) (o : Oper) (m z u : Operand) : Option Action :=
  match o.dst with
  | some _ => none
  | none => match ev (look σ) m with
    | some (.v (.one (.obj κ))) => match ev (look σ) z with
      | some (.v (.one (.obj κz))) => match ev (look σ) u with
        | some (.v (.one (.row κ2))) => match look σ (.vec κ) with
          | some (.o (.qs e eb Q (.stamp x y)) [κr, κs]) => if κz = κs then some ⟨evr (look σ) m ++ evr (look σ) z ++ evr (look σ) u ++ [(.vec κ, .o (.qs e eb Q (.stamp x y)) [κr, κs])], [(.vec κ, some (.o (.qs e eb Q (.entry x y)) [κ2]))], []⟩ else none
          | _ => none
        | _ => none
      | _ => none
    | _ => none

def actMapUpdate (P : Program) (σ : L) (o : Oper) (t : TypeId) (m z u : Operand) : Option Action :=
  match o.dst with
  | some _ => none
  | none => match mapOf P t with
    | some v => match ev (look σ) m with
      | some (.v (.one (.obj κ))) => match keyC (look σ) z with
        | some p => match look σ (.vec κ) with
          | some (.o (.cuts S) ks) => match ev (look σ) u with
            | some yu => match litV yu with
              | some (.int .i64 n) => some ⟨evr (look σ) m ++ evr (look σ) z ++ evr (look σ) u ++ [(.vec κ, .o (.cuts S) ks)], [(.vec κ, some (.o (.cuts (updS S p.1 p.2 n)) ks))], []⟩
              | _ => none
            | none => none
          | some (.o (.qs e eb Q (.entry x y)) [κr]) => if p.1 = x ∧ p.2 = y then match ev (look σ) u with
            | some (.v (.one (.row κ2))) => some ⟨evr (look σ) m ++ evr (look σ) z ++ evr (look σ) u ++ [(.vec κ, .o (.qs e eb Q (.entry x y)) [κr])], [(.vec κ, some (.o (.qs e eb Q (.entry x y)) [κ2]))], []⟩
            | _ => none else none
          | _ => none
        | none => none
      | _ => none
    | none => none

def actDelete (P : Program) (σ : L) (o : Oper) (t : TypeId) (m z : Operand) : Option Action :=
  match mapOf P t with
  | some v => match ev (look σ) m with
    | some (.v (.one (.obj κ))) => match keyC (look σ) z with
      | some p => match look σ (.vec κ) with
        | some (.o (.qs e eb Q .none) []) => some ⟨evr (look σ) m ++ evr (look σ) z ++ [(.vec κ, .o (.qs e eb Q .none) [])], [(.vec κ, some (.o (.qs e eb (updQ Q p.1 p.2 []) .none) []))] ++ wrD o.dst (.tup []), []⟩
        | _ => none
      | none => none
    | _ => none
  | none => none

def actClear (P : Program) (σ : L) (o : Oper) (t : TypeId) (m : Operand) : Option Action :=
  match mapOf P t with
  | some v => match ev (look σ) m with
    | some (.v (.one (.obj κ))) => match look σ (.vec κ) with
      | some (.o (.cuts S) ks) => some ⟨evr (look σ) m ++ [(.vec κ, .o (.cuts S) ks)], [(.vec κ, some (.o (.cuts fun _ _ => 0) ks))] ++ wrD o.dst (.tup []), []⟩
      | _ => none
    | _ => none
  | none => none

def actLen2 (P : Program) (σ : L) (o : Oper) (t : TypeId) (x : Operand) : Option Action :=
  match tinfo P t with
  | none => none
  | some i => match i.k with
    | .slice _ => match ev (look σ) x with
      | some (.v (.one (.slen n))) => some ⟨evr (look σ) x, wrD o.dst (sv (.int .i64 n)), []⟩
      | some (.v (.one (.row κ))) => match look σ (.vec κ) with
        | some (.o (.nest e eb ms h) ks) => some ⟨evr (look σ) x ++ [(.vec κ, .o (.nest e eb ms h) ks)], wrD o.dst (sv (.int .i64 ms.length)), []⟩
        | _ => none
      | _ => none
    | _ => none

def actIndex2 (P : Program) (σ : L) (o : Oper) (t : TypeId) (x z : Operand) : Option Action :=
  match tinfo P t with
  | none => none
  | some i => match i.k with
    | .slice e => match tinfo P e with
      | none => none
      | some j => if j.size = 1 then match ev (look σ) z with
        | none => none
        | some yz => match litV yz with
          | some (.int k ix) => if 0 ≤ ix then match ev (look σ) x with
            | some (.v (.one (.row κ))) => match look σ (.vec κ) with
              | some (.o (.nest e' eb ms h) ks) => if ix.toNat < ms.length then some ⟨evr (look σ) x ++ evr (look σ) z ++ [(.vec κ, .o (.nest e' eb ms h) ks)], wrD o.dst (.v (.one (.vptr κ 1 ix.toNat 0))), []⟩ else none
              | _ => none
            | _ => none else none
          | _ => none else none
    | _ => none

def actLoad2 (P : Program) (σ : L) (o : Oper) (t : TypeId) (x : Operand) : Option Action :=
  match tinfo P t with
  | none => none
  | some i => if i.size = 1 ∧ i.agg = false then match evp (look σ) x with
    | some (.v (.one (.vptr κ 1 ix 0))) => match look σ (.vec κ) with
      | some (.o (.nest e eb ms (some ix')) [κm]) => if ix = ix' then some ⟨evr (look σ) x ++ [(.vec κ, .o (.nest e eb ms (some ix)) [κm])], wrD o.dst (.v (.one (.row κm))), []⟩ else none
      | _ => none
    | _ => none else none

def actOne (P : Program) (σ : L) (o : Oper) (t : TypeId) (n : Nat) (ps : Array (Nat × Operand)) : Option Action :=
  match tinfo P t with
  | none => none
  | some i => match i.k with
    | .slice e => match tinfo P e with
      | none => none
      | some j => if j.size = 1 then match n with
        | 1 => match ps.toList with
          | [(0, x)] => match ev (look σ) x with
            | some (.v (.one (.row κc))) => match freshKey σ (dstN o.dst) with
              | some κ => if κc = κ then none else some ⟨evr (look σ) x, [(.vec κ, some (.o (.one e) [κc]))] ++ wrD o.dst (.v (.one (.row κ))), [κ]⟩
              | none => none
            | _ => none
          | _ => none
        | _ => none else none
    | _ => none

def holeB (h : Option Nat) (n : Nat) : Bool := match h with
  | some i => decide (i < n)
  | none => true
def actApp2 (P : Program) (σ : L) (o : Oper) (x z : Operand) (t u : TypeId) : Option Action :=
  match tinfo P t with
  | none => none
  | some i => match i.k with
    | .slice e => match tinfo P u with
      | none => none
      | some iu => match iu.k with
        | .slice _ => match tinfo P e with
          | none => none
          | some j => if j.size = 1 then match ev (look σ) x with
            | some (.v (.one (.row κr))) => match look σ (.vec κr) with
              | some (.o (.nest e1 eb ms h) ks) => match ev (look σ) z with
                | some (.v (.one (.row κ2))) => match look σ (.vec κ2) with
                  | some (.o (.one e2) [κc]) => match look σ (.vec κc) with
                    | some (.r 1 eb' rows) => match bytesOf rows with
                      | some bs => match freshKey σ (dstN o.dst) with
                        | some κ3 => if e1 = e ∧ e2 = e ∧ eb' = eb then if ms.length + 1 ≤ 140737488355328 ∧ (ms.length + 1) * j.bytes ≤ 140737488355328 then if holeB h ms.length = true then if notIn κ3 ks = true then
                            some ⟨evr (look σ) x ++ evr (look σ) z ++ [(.vec κr, .o (.nest e1 eb ms h) ks), (.vec κ2, .o (.one e2) [κc]), (.vec κc, .r 1 eb' rows)], [(.vec κr, none), (.vec κ2, none), (.vec κc, none), (.vec κ3, some (.o (.nest e1 eb (ms ++ [bs]) h) ks))] ++ wrD o.dst (.v (.one (.row κ3))), [κ3]⟩ else none else none else none else none
                        | none => none
                      | none => none
                    | _ => none
                  | _ => none
                | _ => none
              | _ => none
            | _ => none else none
        | _ => none
    | _ => none

def actCall2 (P : Program) (σ : L) (o : Oper) (c : Call) : Option Action :=
  match c.callee with
  | .builtin .len => match c.args.toList with
    | [x] => match c.argTypes.toList with
      | [t] => actLen2 P σ o t x
      | _ => none
    | _ => none
  | .builtin .append => match c.args.toList with
    | [x, z] => match c.argTypes.toList with
      | [t, u] => actApp2 P σ o x z t u
      | _ => none
    | _ => none
  | .builtin .delete => match c.args.toList with
    | [x, z] => match c.argTypes.toList with
      | [t, _] => actDelete P σ o t x z
      | _ => none
    | _ => none
  | .builtin .clear => match c.args.toList with
    | [x] => match c.argTypes.toList with
      | [t] => actClear P σ o t x
      | _ => none
    | _ => none
  | _ => none

def actMark (P : Program) (σ : L) (o : Oper) (t d : TypeId) (x : Operand) : Option Action :=
  if t = d then match tinfo P t with
    | some i => match i.k with
      | .slice e => match tinfo P e with
        | some j => match j.k with
          | .int .u8 => match ev (look σ) x with
            | some (.v (.one (.row κ))) => match look σ (.vec κ) with
              | some (.r 1 et (r :: rows)) => some ⟨evr (look σ) x ++ [(.vec κ, .r 1 et (r :: rows))], [(.vec κ, none)] ++ wrD o.dst (.v (.one (.t (.sl 1 (r :: rows))))), []⟩
              | _ => none
            | _ => none
          | _ => none
        | none => none
      | _ => none
    | none => none else none

def actN (P : Program) (N : Nat) (σ : L) (o : Oper) : Option Action :=
  if dstB N o.dst then
    match o.op with
    | .makeMap t none => actMakeMap P σ o t
    | .lookup t m z false => actLookup P σ o t m z
    | .mapEntry t m z => actMapEntry P σ o t m z
    | .entryStore _ m z u => actEntryStore σ o m z u
    | .mapUpdate t m z u => actMapUpdate P σ o t m z u
    | .indexAddr t x z => actIndex2 P σ o t x z
    | .load t x => actLoad2 P σ o t x
    | .buildSlice t n ps => actOne P σ o t n ps
    | .call c => actCall2 P σ o c
    | .convert t d x => actMark P σ o t d x
    | _ => none
  else none

def act0 (P : Program) (N : Nat) (σ : L) (o : Oper) : Option Action :=
  if dstB N o.dst then
    match o.op with
    | .move x => act1 P σ o x
    | .assign x => act1 P σ o x
    | .pick c x z => actPick σ o c x z
    | .nilCheck x => actNil σ o x
    | .binOp op t x z _ => match isStruct P t with
      | true => actEqS P σ o op t x z
      | false => match actBin P σ o op t x z with
        | some y => some y
        | none => actPtrNil P σ o op t x z
    | .unOp op _ x => actUn σ o op x
    | .convert s d x => match isSlice P s with
      | true => actText P σ o s d x
      | false => actConv P σ o s d x
    | .extract x ix => actExtract σ o x ix
    | .fieldAddr t x f => actFieldAddr P σ o t x f
    | .field t x f => actField P σ o t x f
    | .alloc t => actAlloc P σ o t
    | .box _ x => actBox σ o x
    | .load t x => actLoad P σ o t x
    | .store t x z => actStore P σ o t x z
    | .indexAddr t x z => actIndex P σ o t x z
    | .makeSlice t x z => actMake P σ o t x z
    | .build t ps => actBuild P σ o t ps
    | .buildSlice t n ps => actBuildSlice P σ o t n ps
    | .slice t x lo hi none => actSlice P σ o t x lo hi
    | .call c => actCall P σ o c
    | .makeFunc fn first caps => actFunc σ o fn first caps
    | _ => none
  else none

/-! #### blocks of many cells; maps that are ranged over -/
def bigT (t : Nat) : Bool := if t = 50 then true else if t = 51 then true else if t = 52 then true else if t = 54 then true else false
def bigOp : Op → Bool
  | .fieldAddr t _ _ => bigT t
  | .indexAddr t _ _ => bigT t
  | .load t _ => bigT t
  | .store t _ _ => bigT t
  | .alloc t => bigT t
  | .build t _ => bigT t
  | .box t _ => bigT t
  | _ => false

structure BInfo where
  size : Nat
  offs : List Nat
  elem : Option (Nat × Nat)
  two : Bool
def binfo (P : Program) (t : TypeId) : Option BInfo :=
  match tinfo P t with
  | none => none
  | some i => if i.agg = true then if zeroOne P t = true then match i.k with
    | .struct fs => if (fs.all fun f => match tinfo P f.2 with | some j => j.size != 0 | none => false) = true then
        some ⟨i.size, fs.map (·.1), none, i.places[0]? == some (0, 1) && i.places[1]? == some (1, 1) && Nat.ble 2 i.size⟩ else none
    | .array n e => match tinfo P e with
      | some j => some ⟨i.size, [], some (j.size, n), false⟩
      | none => none
    | _ => none else none else none

def actFieldM (P : Program) (σ : L) (o : Oper) (t : TypeId) (x : Operand) (f : Nat) : Option Action :=
  match binfo P t with
  | some bi => match bi.offs[f]? with
    | some off => match evp (look σ) x with
      | some (.v (.one (.vptr κ sz i k))) => some ⟨evr (look σ) x, wrD o.dst (.v (.one (.vptr κ sz i (k + off)))), []⟩
      | _ => none
    | none => none
  | none => none

def actIndexM (P : Program) (σ : L) (o : Oper) (t : TypeId) (x z : Operand) : Option Action :=
  match binfo P t with
  | some bi => match bi.elem with
    | some (es, n) => match ev (look σ) z with
      | some yz => match litV yz with
        | some (.int _ ix) => if 0 ≤ ix then if ix < (n : Int) then match ev (look σ) x with
          | some (.v (.one (.vptr κ sz i k))) => some ⟨evr (look σ) x ++ evr (look σ) z, wrD o.dst (.v (.one (.vptr κ 1 (i * sz + k + ix.toNat * es) 0))), []⟩
          | _ => none else none else none
        | _ => none
      | none => none
    | none => none
  | none => none

def actLoadM (P : Program) (σ : L) (o : Oper) (t : TypeId) (x : Operand) : Option Action :=
  match evp (look σ) x with
  | some (.v (.one (.vptr κ sz i k))) => match look σ (.vec κ) with
    | some (.o (.mem e n f h) ks) => match bigT t with
      | true => match binfo P t with
        | some bi => if i * sz + k + bi.size ≤ n then if offHole h (i * sz + k) bi.size = true then some ⟨evr (look σ) x ++ [(.vec κ, .o (.mem e n f h) ks)], wrD o.dst (.v (.agg (cellsF f (i * sz + k) bi.size))), []⟩ else none else none
        | none => none
      | false => match tinfo P t with
        | some ti => if ti.size = 1 ∧ ti.agg = false then if h = some (i * sz + k) then match ks with
            | [κm] => some ⟨evr (look σ) x ++ [(.vec κ, .o (.mem e n f (some (i * sz + k))) [κm])], wrD o.dst (.v (.one (.row κm))), []⟩
            | _ => none
          else if i * sz + k < n then some ⟨evr (look σ) x ++ [(.vec κ, .o (.mem e n f h) ks)], wrD o.dst (sv (f (i * sz + k))), []⟩ else none else none
        | none => none
    | _ => none
  | _ => none

def sizeM (P : Program) (t : TypeId) : Option Nat := match bigT t with
  | true => match binfo P t with
    | some bi => some bi.size
    | none => none
  | false => match tinfo P t with
    | some ti => some ti.size
    | none => none

def actStoreM (P : Program) (σ : L) (o : Oper) (t : TypeId) (x z : Operand) : Option Action :=
  match o.dst with
  | some _ => none
  | none => match ev (look σ) x with
    | some (.v (.one (.vptr κ sz i k))) => match look σ (.vec κ) with
      | some (.o (.mem e n f h) ks) => match sizeM P t with
        | some m => match ev (look σ) z with
          | some (.v (.one (.row κ2))) => if m = 1 then if h = some (i * sz + k) then if i * sz + k < n then some ⟨evr (look σ) x ++ evr (look σ) z ++ [(.vec κ, .o (.mem e n f (some (i * sz + k))) ks)], [(.vec κ, some (.o (.mem e n f (some (i * sz + k))) [κ2]))], []⟩ else none else none else none
          | some (.v y) => if y.cs.all isLit = true then if y.cs.length = m then if i * sz + k + m ≤ n then if offHole h (i * sz + k) m = true then
              some ⟨evr (look σ) x ++ evr (look σ) z ++ [(.vec κ, .o (.mem e n f h) ks)], [(.vec κ, some (.o (.mem e n (putF f (i * sz + k) y.cs) h) ks))], []⟩ else none else none else none else none
          | _ => none
        | none => none
      | _ => none
    | _ => none

def actAllocM (P : Program) (σ : L) (o : Oper) (t : TypeId) : Option Action :=
  match binfo P t with
  | some bi => match freshKey σ (dstN o.dst) with
    | some κ => some ⟨[], [(.vec κ, some (.o (.mem t bi.size (zeroF P t) none) []))] ++ wrD o.dst (.v (.one (.vptr κ 1 0 0))), [κ]⟩
    | none => none
  | none => none

/-- Where a struct's first slice stands, and what its elements are. -/
def holeT (P : Program) (t : TypeId) : Option (Nat × Nat × TypeId) := match tinfo P t with
  | some i => match i.k with
    | .struct fs => fs.findSome? fun f => match tinfo P f.2 with
      | some j => match j.k with
        | .slice e => match tinfo P e with
          | some je => some (f.1, je.size, e)
          | none => none
        | _ => none
      | none => none
    | _ => none
  | none => none
def actBoxM (P : Program) (σ : L) (o : Oper) (t : TypeId) (x : Operand) : Option Action :=
  match ev (look σ) x with
  | some (.v (.agg cs)) => if cs.all isLit = true then match freshKey σ (dstN o.dst) with
    | some κ => match holeT P t with
      | some (i, sz, et) => match freshKey σ (dstN o.dst + 2000) with
        | some κl => if κ = κl then none else if i < cs.length then if isZS (some (litsF cs i)) = true then
            some ⟨evr (look σ) x, [(.vec κl, some (.r sz et [])), (.vec κ, some (.o (.mem t cs.length (litsF cs) (some i)) [κl]))] ++ wrD o.dst (.v (.one (.vptr κ 1 0 0))), [κ, κl]⟩ else none else none
        | none => none
      | none => some ⟨evr (look σ) x, [(.vec κ, some (.o (.mem t cs.length (litsF cs) none) []))] ++ wrD o.dst (.v (.one (.vptr κ 1 0 0))), [κ]⟩
    | none => none else none
  | _ => none

def actBuildM (P : Program) (σ : L) (o : Oper) (t : TypeId) (ps : Array (Nat × Operand)) : Option Action :=
  match binfo P t with
  | some bi => match bi.elem with
    | some _ => match ps.toList with
      | [] => some ⟨[], wrD o.dst (.v (.agg (cellsF (zeroF P t) 0 bi.size))), []⟩
      | _ => none
    | none => if bi.two = true then match ps.toList with
      | [(0, x), (1, z)] => match ev (look σ) x with
        | some (.v (.one (.t (.lit vx)))) => match ev (look σ) z with
          | some (.v (.one (.t (.lit vz)))) => some ⟨evr (look σ) x ++ evr (look σ) z, wrD o.dst (.v (.agg (cellsF (put2 (zeroF P t) vx vz) 0 bi.size))), []⟩
          | _ => none
        | _ => none
      | _ => none else none
  | none => none

def actSliceM (P : Program) (σ : L) (o : Oper) (t : TypeId) (x : Operand) (lo hi : Option Operand) : Option Action :=
  match tinfo P t with
  | none => none
  | some i => match i.k with
    | .slice e => match tinfo P e with
      | none => none
      | some j => match ev (look σ) x with
        | some (.v (.one (.row κ))) => match look σ (.vec κ) with
          | some (.r sz e' rows) => if sz = j.size then match boundL σ lo 0 with
            | none => none
            | some (l, rl) => match boundL σ hi rows.length with
              | none => none
              | some (h, rh) => if l ≤ h then if h ≤ rows.length then if 0 < rows.length then some ⟨evr (look σ) x ++ rl ++ rh ++ [(.vec κ, .r sz e' rows)], wrD o.dst (.v (.one (.part κ sz l (h - l)))), []⟩ else none else none else none else none
          | _ => none
        | _ => none
    | _ => none

def isMap (P : Program) (t : TypeId) : Bool := match tinfo P t with
  | some i => match i.k with
    | .map _ _ => true
    | _ => false
  | none => false
def actRange (P : Program) (σ : L) (o : Oper) (t : TypeId) (x : Operand) : Option Action :=
  if isMap P t = true then match ev (look σ) x with
    | some (.v (.one (.obj κ))) => match look σ (.vec κ) with
      | some (.o (.qsB e eb Q B clk) []) => match freshKey σ (dstN o.dst) with
        | some κi => if κ = κi then none else some ⟨evr (look σ) x ++ [(.vec κ, .o (.qsB e eb Q B clk) [])], [(.vec κi, some (.o (.iter clk [] (0, 0)) [κ]))] ++ wrD o.dst (.v (.one (.vptr κi 1 0 0))), [κi]⟩
        | none => none
      | _ => none
    | _ => none else none

def actEntry (σ : L) (o : Oper) (x : Operand) : Option Action :=
  match ev (look σ) x with
  | some (.v (.one (.vptr κi 1 0 0))) => match look σ (.vec κi) with
    | some (.o (.iter clk seen p) [κ]) => match look σ (.vec κ) with
      | some (.o (.qsB e eb Q B clk') []) => match seen.getLast? with
        | some n => if B p.1 p.2 = some n then if clk' = clk then some ⟨evr (look σ) x ++ [(.vec κi, .o (.iter clk seen (p.1, p.2)) [κ]), (.vec κ, .o (.qsB e eb Q B clk) [])], wrD o.dst (.tup [.agg [.t (.lit (.int .i64 p.1)), .t (.lit (.int .i64 p.2))], .one (.slen (Q p.1 p.2).length)]), []⟩ else none else none
        | none => none
      | _ => none
    | _ => none
  | _ => none

def actDelB (P : Program) (σ : L) (o : Oper) (t : TypeId) (m z : Operand) : Option Action :=
  match mapOf P t with
  | some v => match ev (look σ) m with
    | some (.v (.one (.obj κ))) => match keyC (look σ) z with
      | some p => match look σ (.vec κ) with
        | some (.o (.qsB e eb Q B clk) []) => some ⟨evr (look σ) m ++ evr (look σ) z ++ [(.vec κ, .o (.qsB e eb Q B clk) [])], [(.vec κ, some (.o (.qsB e eb (updQ Q p.1 p.2 []) (updB B p.1 p.2) clk) []))] ++ wrD o.dst (.tup []), []⟩
        | _ => none
      | none => none
    | _ => none
  | none => none

def actX (P : Program) (N : Nat) (σ : L) (o : Oper) : Option Action :=
  if dstB N o.dst then
    match o.op with
    | .fieldAddr t x f => actFieldM P σ o t x f
    | .indexAddr t x z => actIndexM P σ o t x z
    | .load t x => actLoadM P σ o t x
    | .store t x z => actStoreM P σ o t x z
    | .alloc t => actAllocM P σ o t
    | .box t x => actBoxM P σ o t x
    | .build t ps => actBuildM P σ o t ps
    | .slice t x lo hi none => actSliceM P σ o t x lo hi
    | .range t x => actRange P σ o t x
    | .entry x => actEntry σ o x
    | .call c => match c.callee with
      | .builtin .delete => match c.args.toList with
        | [x, z] => match c.argTypes.toList with
          | [t, _] => actDelB P σ o t x z
          | _ => none
        | _ => none
      | _ => none
    | _ => none
  else none

def act (P : Program) (N : Nat) (σ : L) (o : Oper) : Option Action :=
  match bigOp o.op with
  | true => actX P N σ o
  | false => match act0 P N σ o with
    | some x => some x
    | none => match actN P N σ o with
      | some x => some x
      | none => actX P N σ o

end Go.AM
