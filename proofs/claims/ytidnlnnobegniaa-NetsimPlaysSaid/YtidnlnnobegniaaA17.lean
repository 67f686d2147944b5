import Derived.Test.YtidnlnnobegniaaA16
set_option linter.unusedVariables false
set_option linter.unusedSimpArgs false
namespace Go.AM
open Go.RowKit
variable {C : Ctx} {Q : Exit → L → Prop} {σ : L}

theorem Imp.lift {v : Value} {t : T} (n : Nat) (hv : VRep C.G0 v t) (hn : look σ (.slot n) = some (.s (sv v))) : Imp C σ (put σ (.slot n) (.s (.v (.one (.t t))))) := by
  intro a w ⟨G, ρ, hr⟩
  obtain ⟨v', y, e1, e2, e3⟩ := hr.slot n _ hn
  injection e1 with e1
  subst e1
  have := e3.2.lit_inv
  subst this
  have hlt : n < a.tmps.size := (Array.getElem?_eq_some_iff.1 e2).1
  have h2 := hr.put (d := n) (by rw [← hr.ntmps]; exact hlt) (v := v') (y := .v (.one (.t t))) ⟨e3.1, hv.ext hr.g0⟩
  have h3 : a.put (some n) v' = a := by
    cases a with
    | mk tmps defers =>
      simp only [Act.put, Act.mk.injEq, and_true]
      simp at e2 hlt
      apply Array.ext
      · simp
      · intro i hi1 hi2
        rw [Array.getElem_setIfInBounds]
        split
        · rename_i he; subst he; rw [Array.getElem?_eq_getElem hlt] at e2; injection e2 with e2; exact e2.symm
        · rfl
  rw [h3] at h2
  exact ⟨G, ρ, by rw [look_put]; exact h2⟩

def sT (t : T) : Cont := .s (.v (.one (.t t)))
def sI (n : Int) : Cont := .s (.v (.one (.t (.lit (.int .i64 n)))))
def sB (b : Bool) : Cont := .s (.v (.one (.t (.lit (.bool b)))))
def sR (κ : Nat) : Cont := .s (.v (.one (.row κ)))
def sP (κ : Nat) : Cont := .s (.v (.one (.ptr κ 0)))
def rV (e : TypeId) (xs : List Int) : Cont := .r 1 e (xs.map fun n => [.lit (.int .i64 n)])
end Go.AM
