import Derived.Test.YtbohgpdpglfepaaA24
set_option linter.unusedVariables false
set_option linter.unusedSimpArgs false
namespace Go.AM
open Go.RowKit

/-! ### 28. Nil in a row's cells is a slice without elements -/
def CT (x y : T) : Prop := x = y ∨ (x = .lit (.slice none 0 0) ∧ ∃ sz, y = .sl sz [])
theorem CT.rep {G : Heap} {v : Value} {x y : T} (h : CT x y) (hv : VRep G v x) : VRep G v y := by
  rcases h with rfl | ⟨rfl, sz, rfl⟩
  · exact hv
  · have := hv.lit_inv
    subst this
    exact VRep.nil G sz
theorem sl_deep {G : Heap} {v : Value} {sz : Nat} {rows rows' : List (List T)} (h : All2 (All2 CT) rows rows') (hv : VRep G v (.sl sz rows)) : VRep G v (.sl sz rows') := by
  cases hv with
  | sl A n c sz rows u hn hc hsz hA hcell hrec =>
    have hl := h.length
    refine .sl A n c sz rows' u (by omega) hc ?_ hA hcell ?_
    · intro i cells hi
      have hlt : i < rows.length := by rw [hl]; exact (List.getElem?_eq_some_iff.1 hi).1
      obtain ⟨c0, h1, h2⟩ : ∃ c0, rows[i]? = some c0 ∧ All2 CT c0 cells := by
        obtain ⟨b, hb, hr⟩ := h.get hi
        exact ⟨b, hb, hr⟩
      rw [← h2.length]; exact hsz i c0 h1
    · intro i cells k t hi hk
      obtain ⟨c0, h1, h2⟩ := h.get hi
      obtain ⟨t0, h3, h4⟩ := h2.get hk
      exact h4.rep (hrec i c0 k t0 h1 h3)

def DV (x y : PV) : Prop := x = y ∨ ∃ sz rows rows', x = .one (.sl sz rows) ∧ y = .one (.sl sz rows') ∧ All2 (All2 CT) rows rows'
theorem DV.rep {G : Heap} {v : Value} {x y : PV} (h : DV x y) (hv : V1Rep G noPlaces v x.up) : V1Rep G noPlaces v y.up := by
  rcases h with rfl | ⟨sz, rows, rows', rfl, rfl, hr⟩
  · exact hv
  · exact ⟨hv.1, sl_deep hr hv.2⟩
theorem pure_deep {P : Program} {f : FuncId} {xs ys : List PV} {res : PR} (h : Pure P f ys res) (hd : All2 DV xs ys) : Pure P f xs res := by
  intro G w vals hle hvals
  refine h G w vals hle ?_
  clear hle h
  induction hd generalizing vals with
  | nil => exact hvals
  | cons h1 t ih =>
    cases hvals with
    | cons h2 t2 => exact .cons (h1.rep h2) (ih _ t2)
end Go.AM
