import Derived.Test.YtidnlnnobegniaaA3
import Derived.Laws.Small
import Derived.Laws.StructEq
set_option linter.unusedVariables false
set_option linter.unusedSimpArgs false
namespace Go.AM
open Go.RowKit

/-! ### 11. Operations that touch no memory -/
variable {C : Ctx} {g : State} {o : Oper}

theorem applys_self {G : Heap} {ρ : Places} {s : State} {a : Act} {w : World} (h : RelG C G ρ s a w) : RelG C G ρ (applys s []) a w := h

/-- A value out of values; the world as it was. -/
theorem opok_pure {rd : List (Loc × Cont)} {y : SV} (hd : dstOK C o.dst)
    (h : ∀ G ρ s a w, RelG C G ρ s a w → Reads rd s → ∃ v, (execOp a.eval o).run C.P w = .ok (.value v) w ∧ SVRep G ρ v y) : OpOK C o ⟨rd, wrD o.dst y, []⟩ := by
  have := opok_val (C := C) (o := o) (rd := rd) (wr := []) (new := []) (y := y) hd fun G ρ s a w hrel hr _ => by
    obtain ⟨v, h1, h2⟩ := h G ρ s a w hrel hr
    exact ⟨v, w, G, ρ, h1, hrel, h2⟩
  simpa using this

theorem ok_move {x : Operand} {y : SV} (ho : o.op = .move x ∨ o.op = .assign x) (hd : dstOK C o.dst) (h : ev g x = some y) : OpOK C o ⟨evr g x, wrD o.dst y, []⟩ :=
  opok_pure hd fun G ρ s a w hrel hr => ⟨a.eval x, by rcases ho with ho | ho <;> simp [execOp, ho], ev_rep h hr hrel⟩

def litB : SV → Option Bool
  | .v (.one (.t (.lit (.bool b)))) => some b
  | _ => none
theorem litB_rep {G : Heap} {ρ : Places} {y : SV} {b : Bool} (h : litB y = some b) {v : Value} (hv : SVRep G ρ v y) : v = .bool b := by
  unfold litB at h
  split at h
  · injection h with h; subst h; exact hv.2.lit_inv
  · simp at h

def litV : SV → Option Value
  | .v (.one (.t (.lit v))) => some v
  | _ => none
theorem litV_rep {G : Heap} {ρ : Places} {y : SV} {u : Value} (h : litV y = some u) {v : Value} (hv : SVRep G ρ v y) : v = u ∧ u.oneCell' = true := by
  unfold litV at h
  split at h
  · injection h with h; subst h; have := hv.2.lit_inv; subst this; exact ⟨rfl, hv.1⟩
  · simp at h

def sv (v : Value) : SV := .v (.one (.t (.lit v)))
theorem sv_rep {G : Heap} {ρ : Places} {v : Value} (h : v.oneCell' = true) : SVRep G ρ v (sv v) := ⟨h, .lit v⟩

theorem ok_pick {c x z : Operand} {b : Bool} {yc y : SV} (ho : o.op = .pick c x z) (hd : dstOK C o.dst) (hc : ev g c = some yc) (hb : litB yc = some b) (h : ev g (if b then x else z) = some y) :
    OpOK C o ⟨evr g c ++ evr g (if b then x else z), wrD o.dst y, []⟩ :=
  opok_pure hd fun G ρ s a w hrel hr => by
    obtain ⟨h1, h2⟩ := Reads.app.1 hr
    have e := litB_rep hb (ev_rep hc h1 hrel)
    have hy := ev_rep h h2 hrel
    refine ⟨a.eval (if b then x else z), ?_, hy⟩
    cases b <;> simp [execOp, ho, e, asBool]

theorem ptr_rep {G : Heap} {v : Value} {cells : List T} (h : ∃ a, v = .pointer (some a) ∧ ∀ (k : Nat) t, cells[k]? = some t → ∃ u, gcell G (a.add k) = some u ∧ u.oneCell' = true ∧ VRep G u t) : VRep G v (.ptr cells) := by
  obtain ⟨a, rfl, h⟩ := h
  have hch : ∃ f : Nat → Value, ∀ (k : Nat) t, cells[k]? = some t → gcell G (a.add k) = some (f k) ∧ (f k).oneCell' = true ∧ VRep G (f k) t := by
    refine ⟨fun k => match hk : cells[k]? with
      | some t => (h k t hk).choose
      | none => undef, fun k t hk => ?_⟩
    simp only
    split
    · rename_i t' hk'
      rw [hk] at hk'
      injection hk' with hk'
      subst hk'
      exact (h k t hk).choose_spec
    · rename_i hk'; rw [hk] at hk'; simp at hk'
  obtain ⟨f, hf⟩ := hch
  exact .ptr a cells f (fun k hk => ⟨(hf k _ (List.getElem?_eq_getElem hk)).1, (hf k _ (List.getElem?_eq_getElem hk)).2.1⟩) fun k t hk => (hf k t hk).2.2

theorem ok_nil {x : Operand} {y : SV} (ho : o.op = .nilCheck x) (hd : dstOK C o.dst) (h : evp g x = some y)
    (hy : (∃ κ off, y = .v (.one (.ptr κ off))) ∨ (∃ κ sz i k, y = .v (.one (.vptr κ sz i k))) ∨ ∃ cs, y = .v (.one (.tptr cs))) : OpOK C o ⟨evr g x, wrD o.dst y, []⟩ :=
  opok_pure hd fun G ρ s a w hrel hr => by
    have h1 := evp_rep h hr hrel
    refine ⟨a.eval x, ?_, h1⟩
    have : ∃ ad, a.eval x = .pointer (some ad) := by
      rcases hy with ⟨κ, off, rfl⟩ | ⟨κ, sz, i, k, rfl⟩ | ⟨cs, rfl⟩
      · obtain ⟨_, b, _, e⟩ := h1; exact ⟨_, e⟩
      · obtain ⟨_, b, n, c, _, e⟩ := h1; exact ⟨_, e⟩
      · obtain ⟨_, ad, e, _⟩ := h1; exact ⟨_, e⟩
    obtain ⟨ad, e⟩ := this
    simp [execOp, ho, e]

/-- Two-sided operations on whole numbers, bools and strings. -/
def binv (k : TK) (op : BinOp) : Value → Value → Option Value
  | .int a x, .int b y =>
    if a = b then
      match op with
      | .add => some (.int a (a.wrap (x + y)))
      | .sub => some (.int a (a.wrap (x - y)))
      | .mul => some (.int a (a.wrap (x * y)))
      | .quo => if y = 0 then none else some (.int a (a.wrap (x.tdiv y)))
      | .rem => if y = 0 then none else some (.int a (x.tmod y))
      | .eql => some (.bool (x == y))
      | .neq => some (.bool (x != y))
      | .lss => some (.bool (decide (x < y)))
      | .leq => some (.bool (decide (x ≤ y)))
      | .gtr => some (.bool (decide (x > y)))
      | .geq => some (.bool (decide (x ≥ y)))
      | .shr => if y < 0 then none else some (.int a (x.fdiv (2 ^ (min y.toNat a.bits))))
      | .shl => if y < 0 then none else some (.int a (a.wrap (x * 2 ^ (min y.toNat a.bits))))
      | .and => some (.int a (a.wrap (BitVec.ofInt a.bits x &&& BitVec.ofInt a.bits y).toNat))
      | .or => some (.int a (a.wrap (BitVec.ofInt a.bits x ||| BitVec.ofInt a.bits y).toNat))
      | .xor => some (.int a (a.wrap (BitVec.ofInt a.bits x ^^^ BitVec.ofInt a.bits y).toNat))
      | _ => none
    else none
  | .bool x, .bool y =>
    match k, op with
    | .bool, .eql => some (.bool (x == y))
    | .bool, .neq => some (.bool (!(x == y)))
    | _, _ => none
  | .string x, .string y =>
    match op with
    | .eql => some (.bool (x.toList == y.toList))
    | .neq => some (.bool (!(x.toList == y.toList)))
    | _ => none
  | .slice x _ _, .slice y _ _ =>
    match k, op with
    | .slice _, .eql => if x.isNone || y.isNone then some (.bool (x.isNone && y.isNone)) else none
    | .slice _, .neq => if x.isNone || y.isNone then some (.bool (!(x.isNone && y.isNone))) else none
    | _, _ => none
  | .pointer x, .pointer y =>
    match k, op with
    | .ptr _, .eql => if x.isNone || y.isNone then some (.bool (x.isNone && y.isNone)) else none
    | .ptr _, .neq => if x.isNone || y.isNone then some (.bool (!(x.isNone && y.isNone))) else none
    | _, _ => none
  | _, _ => none

theorem binv_one {k : TK} {op : BinOp} {x y v : Value} (h : binv k op x y = some v) : v.oneCell' = true := by
  unfold binv at h
  repeat' (split at h)
  all_goals first
    | (simp at h; done)
    | (injection h with h; subst h; rfl)

theorem run_equalIn_ptr {P : Program} {t e : TypeId} (h : P.underlying t = some (.pointer e)) (d : Nat) (x y : Option Addr) (hxy : (x.isNone || y.isNone) = true) (w : World) :
    (Op.equalIn (d + 1) t (.pointer x) (.pointer y)).run P w = .ok (x.isNone && y.isNone) w := by
  cases x <;> cases y <;> simp_all [Op.equalIn, run_underlying h]

theorem run_equalIn_slice {P : Program} {t e : TypeId} (h : P.underlying t = some (.slice e)) (d : Nat) (x y : Option Addr) (n c n' c' : Nat) (hxy : (x.isNone || y.isNone) = true) (w : World) :
    (Op.equalIn (d + 1) t (.slice x n c) (.slice y n' c')).run P w = .ok (x.isNone && y.isNone) w := by
  cases x <;> cases y <;> simp_all [Op.equalIn, run_underlying h]

theorem run_binv {P : Program} {t : TypeId} {i : TInfo} (ht : tinfo P t = some i) {op : BinOp} {x y v : Value} (h : binv i.k op x y = some v) (xo yo : Operand) (w : World) :
    (do eqGuard op t xo yo x y; binOp op t x y).run P w = .ok v w := by
  obtain ⟨inf, d, z, hs⟩ := tinfo_spec ht
  have hg : (eqGuard op t xo yo x y).run P w = .ok () w := by
    unfold eqGuard
    unfold binv at h
    cases op <;> simp <;> (cases x <;> simp at h <;> cases y <;> simp at h <;> simp)
  rw [Sem.run_bind, hg, Result.andThen_ok]
  have hk := hs.k
  have hu := hs.und
  unfold binv at h
  split at h
  · rename_i a x b y
    split at h
    · rename_i hab
      subst hab
      cases op <;> simp at h <;> first
        | (subst h; simp [binOp, Op.intArith, Op.intCmp, Op.intBits]; done)
        | (obtain ⟨h0, rfl⟩ := h; first | (simp [binOp, Op.intDiv, h0]; done) | (simp [binOp, Op.shift, h0]; done) | (simp [binOp, Op.shift, Int.not_lt.2 h0]; done))
    · simp at h
  · rename_i x y
    have hd : ∀ (_ : i.k = .bool), d = .bool := fun hik => by rw [hik] at hk; cases d <;> simp [tkOf] at hk; rfl
    split at h
    · rename_i hik
      rw [hd hik] at hu
      injection h with h; subst h
      exact run_eql_bool (P := P) w t x y hu
    · rename_i hik
      rw [hd hik] at hu
      injection h with h; subst h
      show (do pure (.bool (!(← Op.equal t (.bool x) (.bool y)))) : Sem Value).run P w = _
      simp [run_equal_bool w t x y hu]
    · simp at h
  · rename_i x y
    split at h
    · injection h with h; subst h; simp [binOp, Op.stringOp]
    · injection h with h; subst h; simp [binOp, Op.stringOp]
    · simp at h
  · rename_i x n c y n' c'
    have hd : ∀ e, i.k = .slice e → d = .slice e := fun e hik => by rw [hik] at hk; cases d <;> simp [tkOf] at hk; rw [hk]
    split at h
    · rename_i e hik
      rw [hd e hik] at hu
      split at h
      · rename_i hn
        injection h with h; subst h
        have := run_equalIn_slice hu 9999 x y n c n' c' hn w
        show (do pure (.bool (← Op.equalIn (9999 + 1) t (.slice x n c) (.slice y n' c'))) : Sem Value).run P w = _
        rw [Sem.run_bind, this]; rfl
      · simp at h
    · rename_i e hik
      rw [hd e hik] at hu
      split at h
      · rename_i hn
        injection h with h; subst h
        have := run_equalIn_slice hu 9999 x y n c n' c' hn w
        show (do pure (.bool (!(← Op.equalIn (9999 + 1) t (.slice x n c) (.slice y n' c')))) : Sem Value).run P w = _
        rw [Sem.run_bind, this]; rfl
      · simp at h
    · simp at h
  · rename_i x y
    have hd : ∀ e, i.k = .ptr e → d = .pointer e := fun e hik => by rw [hik] at hk; cases d <;> simp [tkOf] at hk; rw [hk]
    split at h
    · rename_i e hik
      rw [hd e hik] at hu
      split at h
      · rename_i hn
        injection h with h; subst h
        have := run_equalIn_ptr hu 9999 x y hn w
        show (do pure (.bool (← Op.equalIn (9999 + 1) t (.pointer x) (.pointer y))) : Sem Value).run P w = _
        rw [Sem.run_bind, this]; rfl
      · simp at h
    · rename_i e hik
      rw [hd e hik] at hu
      split at h
      · rename_i hn
        injection h with h; subst h
        have := run_equalIn_ptr hu 9999 x y hn w
        show (do pure (.bool (!(← Op.equalIn (9999 + 1) t (.pointer x) (.pointer y)))) : Sem Value).run P w = _
        rw [Sem.run_bind, this]; rfl
      · simp at h
    · simp at h
  · simp at h

theorem ok_bin {op : BinOp} {t yt : TypeId} {i : TInfo} {x z : Operand} {yx yz : SV} {vx vz v : Value} (ho : o.op = .binOp op t x z yt) (hd : dstOK C o.dst) (ht : tinfo C.P t = some i)
    (hx : ev g x = some yx) (hz : ev g z = some yz) (hvx : litV yx = some vx) (hvz : litV yz = some vz) (h : binv i.k op vx vz = some v) : OpOK C o ⟨evr g x ++ evr g z, wrD o.dst (sv v), []⟩ :=
  opok_pure hd fun G ρ s a w hrel hr => by
    obtain ⟨h1, h2⟩ := Reads.app.1 hr
    have e1 := (litV_rep hvx (ev_rep hx h1 hrel)).1
    have e2 := (litV_rep hvz (ev_rep hz h2 hrel)).1
    refine ⟨v, ?_, sv_rep (binv_one h)⟩
    have := run_binv (P := C.P) ht h x z w
    simp only [execOp, ho, e1, e2, Sem.run_bind, Sem.run_pure] at this ⊢
    rw [this]; rfl

def unv : UnOp → Value → Option Value
  | .neg, .int k n => some (.int k (k.wrap (0 - n)))
  | .not, .bool b => some (.bool !b)
  | .xor, .int k n => some (.int k (k.wrap (BitVec.ofInt k.bits (if k.signed then -1 else k.max) ^^^ BitVec.ofInt k.bits n).toNat))
  | _, _ => none

theorem ok_un {op : UnOp} {t : TypeId} {x : Operand} {yx : SV} {vx v : Value} (ho : o.op = .unOp op t x) (hd : dstOK C o.dst) (hx : ev g x = some yx) (hvx : litV yx = some vx) (h : unv op vx = some v) :
    OpOK C o ⟨evr g x, wrD o.dst (sv v), []⟩ :=
  opok_pure hd fun G ρ s a w hrel hr => by
    have e1 := (litV_rep hvx (ev_rep hx hr hrel)).1
    unfold unv at h
    split at h <;> first
      | (simp at h; done)
      | (injection h with h; subst h; refine ⟨_, ?_, sv_rep rfl⟩; simp [execOp, ho, e1, Op.unary, Op.intArith, Op.intBits])

/-- A number of another kind. -/
theorem ok_conv_int {src dst : TypeId} {i j : TInfo} {k k' : IntKind} {n : Int} {x : Operand} {yx : SV} (ho : o.op = .convert src dst x) (hd : dstOK C o.dst) (hi : tinfo C.P src = some i) (hj : tinfo C.P dst = some j) (hk : j.k = .int k)
    (hx : ev g x = some yx) (hvx : litV yx = some (.int k' n)) : OpOK C o ⟨evr g x, wrD o.dst (sv (.int k (k.wrap n))), []⟩ :=
  opok_pure hd fun G ρ s a w hrel hr => by
    have e1 := (litV_rep hvx (ev_rep hx hr hrel)).1
    obtain ⟨_, d1, _, h1⟩ := tinfo_spec hi
    obtain ⟨_, d2, _, h2⟩ := tinfo_spec hj
    have hd2 : d2 = .int k := by have := h2.k; rw [hk] at this; cases d2 <;> simp [tkOf] at this; rw [this]
    have hu := h2.und
    rw [hd2] at hu
    exact ⟨_, by simp [execOp, ho, e1, convert, run_underlying h1.und, run_underlying hu, Conv.intToInt], sv_rep rfl⟩

theorem ok_extract {x : Operand} {ix : Nat} {xs : List V1} {y : V1} (ho : o.op = .extract x ix) (hd : dstOK C o.dst) (hx : ev g x = some (.tup xs)) (h : xs[ix]? = some y) : OpOK C o ⟨evr g x, wrD o.dst (.v y), []⟩ :=
  opok_pure hd fun G ρ s a w hrel hr => by
    obtain ⟨vs, e, hv⟩ := ev_rep hx hr hrel
    obtain ⟨v, h1, h2⟩ := hv.get h
    exact ⟨v, by simp [execOp, ho, e, Instr.extract, h1], h2⟩

/-- A field's place. -/
theorem run_fieldAt {P : Program} {t ft : TypeId} {i j : TInfo} {fs : List (Nat × TypeId)} {f off : Nat} (ht : tinfo P t = some i) (hk : i.k = .struct fs) (hf : fs[f]? = some (off, ft)) (hj : tinfo P ft = some j) (h0 : j.size ≠ 0) (ad : Addr) (w : World) :
    (Instr.fieldAt t (.pointer (some ad)) f).run P w = .ok (.pointer (some (ad.add off))) w := by
  obtain ⟨_, d, _, hs⟩ := tinfo_spec ht
  obtain ⟨_, _, _, hs2⟩ := tinfo_spec hj
  have hd := hs.k
  rw [hk] at hd
  cases d <;> simp [tkOf] at hd
  rename_i fields
  subst hd
  simp only [List.getElem?_map, Option.map_eq_some_iff] at hf
  obtain ⟨fl, hfl, he⟩ := hf
  simp only [Prod.mk.injEq] at he
  obtain ⟨rfl, rfl⟩ := he
  have hfl' : fields[f]? = some fl := by simpa using hfl
  simp [Instr.fieldAt, hs.run_und, hfl', Instr.sureAddr, fieldPlace, hs2.run_size, h0]

theorem ok_fieldAddr {x : Operand} {t ft : TypeId} {i j : TInfo} {fs : List (Nat × TypeId)} {f off : Nat} {y y' : SV} (ho : o.op = .fieldAddr t x f) (hd : dstOK C o.dst) (ht : tinfo C.P t = some i) (hk : i.k = .struct fs) (hf : fs[f]? = some (off, ft)) (hj : tinfo C.P ft = some j) (h0 : j.size ≠ 0)
    (hx : evp g x = some y)
    (hy : (∃ κ o, y = .v (.one (.ptr κ o)) ∧ y' = .v (.one (.ptr κ (o + off)))) ∨ (∃ κ sz i k, y = .v (.one (.vptr κ sz i k)) ∧ y' = .v (.one (.vptr κ sz i (k + off)))) ∨ ∃ cs, y = .v (.one (.tptr cs)) ∧ y' = .v (.one (.tptr (cs.drop off)))) :
    OpOK C o ⟨evr g x, wrD o.dst y', []⟩ :=
  opok_pure hd fun G ρ s a w hrel hr => by
    have h1 := evp_rep hx hr hrel
    rcases hy with ⟨κ, o', rfl, rfl⟩ | ⟨κ, sz, i', k, rfl, rfl⟩ | ⟨cs, rfl, rfl⟩
    · obtain ⟨_, b, e1, e2⟩ := h1
      refine ⟨.pointer (some ((⟨b, o', none⟩ : Addr).add off)), by simp [execOp, ho, e2, run_fieldAt ht hk hf hj h0], ⟨rfl, b, e1, ?_⟩⟩
      rw [Addr.add_lit]
    · obtain ⟨_, b, n, c, e1, e2⟩ := h1
      refine ⟨.pointer (some ((⟨b, i' * sz + k, none⟩ : Addr).add off)), by simp [execOp, ho, e2, run_fieldAt ht hk hf hj h0], ⟨rfl, b, n, c, e1, ?_⟩⟩
      rw [Addr.add_lit, Nat.add_assoc]
    · obtain ⟨_, ad, e1, h2⟩ := h1
      refine ⟨.pointer (some (ad.add off)), by simp [execOp, ho, e1, run_fieldAt ht hk hf hj h0], ⟨rfl, _, rfl, fun k t hkt => ?_⟩⟩
      rw [List.getElem?_drop] at hkt
      obtain ⟨u, h3, h4, h5⟩ := h2 _ t hkt
      refine ⟨u, ?_, h4, h5⟩
      have : (ad.add off).add k = ad.add (off + k) := by
        unfold Addr.add
        by_cases e1 : off = 0 <;> by_cases e2 : k = 0 <;> simp [e1, e2, Nat.add_assoc]
      rw [this]; exact h3

/-- A field of a value. -/
theorem run_part {P : Program} {t : TypeId} {i : TInfo} (ht : tinfo P t = some i) (cs : Array Value) (off : Nat) (vs : List Value) (hlen : vs.length = i.size) (hone : i.agg = false → vs.length = 1) (hv : (cs.toList.drop off).take i.size = vs) (w : World) :
    (part t cs off).run P w = .ok (if i.agg then .agg vs.toArray else vs.headD undef) w := by
  obtain ⟨_, d, _, hs⟩ := tinfo_spec ht
  simp only [part, Sem.run_bind, hs.run_agg, Result.andThen_ok]
  cases ha : i.agg with
  | true =>
    simp only [if_true, Sem.run_bind, hs.run_size, Result.andThen_ok, Sem.run_pure]
    congr 2
    rw [← hv]
    apply Array.ext'
    simp [List.take_drop, Nat.add_sub_cancel_left]
  | false =>
    have h1 := hone ha
    rw [← hlen, h1] at hv
    match vs, h1 with
    | [v], _ =>
      have : cs[off]? = some v := by
        have := congrArg (fun l => l[0]?) hv
        simpa using this
      simp [this]

theorem ok_field {x : Operand} {t ft : TypeId} {i j : TInfo} {fs : List (Nat × TypeId)} {f off : Nat} {cs : List At} {y : V1} (ho : o.op = .field t x f) (hd : dstOK C o.dst) (ht : tinfo C.P t = some i) (hk : i.k = .struct fs) (hf : fs[f]? = some (off, ft)) (hj : tinfo C.P ft = some j)
    (hx : ev g x = some (.v (.agg cs))) (hlen : ((cs.drop off).take j.size).length = j.size) (h : mkV j.agg ((cs.drop off).take j.size) = some y) : OpOK C o ⟨evr g x, wrD o.dst (.v y), []⟩ :=
  opok_pure hd fun G ρ s a w hrel hr => by
    obtain ⟨vs, e, hv⟩ := ev_rep hx hr hrel
    have h2 := (hv.drop off).take j.size
    obtain ⟨h3, h4⟩ := mkV_rep h h2
    refine ⟨_, ?_, h3⟩
    obtain ⟨_, d, _, hs⟩ := tinfo_spec ht
    have hd := hs.k
    rw [hk] at hd
    cases d <;> simp [tkOf] at hd
    rename_i fields
    subst hd
    simp only [List.getElem?_map, Option.map_eq_some_iff] at hf
    obtain ⟨fl, hfl, he⟩ := hf
    simp only [Prod.mk.injEq] at he
    obtain ⟨rfl, rfl⟩ := he
    have hfl' : fields[f]? = some fl := by simpa using hfl
    have := run_part (P := C.P) hj vs.toArray fl.offset ((vs.drop fl.offset).take j.size) (by rw [h2.length, hlen]) h4 rfl w
    simp [execOp, ho, e, Instr.field, hs.run_und, hfl', asAgg, this]

end Go.AM
