import Derived.Test.YtbohgpdpglfepaaA24
set_option linter.unusedVariables false
set_option linter.unusedSimpArgs false
namespace Go.AM
open Go.RowKit
variable {C : Ctx} {σ : L}

/-! ### 27. A shift by a number of another kind -/
def shV (op : BinOp) (a : IntKind) (n m : Int) : Option Value :=
  match op with
  | .shr => if m < 0 then none else some (.int a (n.fdiv (2 ^ (min m.toNat a.bits))))
  | .shl => if m < 0 then none else some (.int a (a.wrap (n * 2 ^ (min m.toNat a.bits))))
  | _ => none

theorem ok_sh {g : State} {o : Oper} {op : BinOp} {t yt : TypeId} {x z : Operand} {yx yz : SV} {a b : IntKind} {n m : Int} {v : Value} (ho : o.op = .binOp op t x z yt) (hd : dstOK C o.dst)
    (hx : ev g x = some yx) (hz : ev g z = some yz) (hvx : litV yx = some (.int a n)) (hvz : litV yz = some (.int b m)) (h : shV op a n m = some v) : OpOK C o ⟨evr g x ++ evr g z, wrD o.dst (sv v), []⟩ :=
  opok_pure hd fun G ρ s ac w hrel hr => by
    obtain ⟨h1, h2⟩ := Reads.app.1 hr
    have e1 := (litV_rep hvx (ev_rep hx h1 hrel)).1
    have e2 := (litV_rep hvz (ev_rep hz h2 hrel)).1
    unfold shV at h
    split at h
    · split at h
      · simp at h
      · rename_i h0
        injection h with h
        subst h
        exact ⟨_, by simp [execOp, ho, e1, e2, eqGuard, binOp, Op.shift, h0], sv_rep rfl⟩
    · split at h
      · simp at h
      · rename_i h0
        injection h with h
        subst h
        exact ⟨_, by simp [execOp, ho, e1, e2, eqGuard, binOp, Op.shift, h0], sv_rep rfl⟩
    · simp at h

def shR (C : Ctx) (ds : List (Option Nat)) (σ : L) (o : Oper) : Option (Value × List (Loc × Cont)) :=
  match o.op with
  | .binOp op t x z _ => match dstB C.N o.dst with
    | true => match guardR C ds o σ with
      | some gd => match ev (look σ) x with
        | some yx => match ev (look σ) z with
          | some yz => match litV yx with
            | some (.int a n) => match litV yz with
              | some (.int b m) => match shV op a n m with
                | some v => some (v, gd ++ (evr (look σ) x ++ evr (look σ) z))
                | none => none
              | _ => none
            | _ => none
          | none => none
        | none => none
      | none => none
    | false => none
  | _ => none

theorem runD_sh {K : L → List Action → Prop} {ds : List (Option Nat)} {o : Oper} {v : Value} {rd : List (Loc × Cont)} {rest : List Oper} {acts : List Action} (h : shR C ds σ o = some (v, rd))
    (k : RunD C ds rest (applyL σ (wrD o.dst (sv v))) (acts ++ [⟨rd, wrD o.dst (sv v), []⟩]) K) : RunD C ds (o :: rest) σ acts K := by
  unfold shR at h
  split at h
  case h_2 => simp at h
  rename_i op t x z yt ho
  split at h
  case h_2 => simp at h
  rename_i hd
  split at h
  case h_2 => simp at h
  rename_i gd hg
  split at h
  case h_2 => simp at h
  rename_i yx hx
  split at h
  case h_2 => simp at h
  rename_i yz hz
  split at h
  case h_2 => simp at h
  rename_i a n hvx
  split at h
  case h_2 => simp at h
  rename_i b m hvz
  split at h
  case h_2 => simp at h
  rename_i v' hv
  simp only [Option.some.injEq, Prod.mk.injEq] at h
  obtain ⟨rfl, rfl⟩ := h
  unfold RunD
  exact guardR_sound hg ⟨ok_sh ho (dstB_ok hd) hx hz hvx hvz hv, Reads.app.2 ⟨evr_self _ _, evr_self _ _⟩, fun κ h => by simp at h⟩ k
end Go.AM
