import Derived.Test.YtbohgpdpglfepaaT2
set_option linter.unusedVariables false
set_option linter.unusedSimpArgs false
namespace Go.Proofs.Ytbohgpdpglfepaa
open Go.AM Go.RowKit

abbrev fI : Int → List T := fun n => [T.lit (.int .i64 n)]
def vvInts (vs : List (List Int)) : T := .sl 1 (vs.map fun v => [vInts v])
def mx2 (x y : Int) : Int := if x < y then y else x
def mxL (a b : List Int) : List Int := List.zipWith mx2 a b
def mxk (k : Nat) (ys v : List Int) : List Int := List.zipWith mx2 (ys.take k) (v.take k) ++ ys.drop k
def joinOK : List (List Int) → Bool
  | [] => false
  | v :: vs => vecOK v && vs.all fun w => decide (w.length = v.length) && vecOK w
def joinV : List (List Int) → List Int
  | [] => []
  | v :: vs => vs.foldl mxL v

theorem mxL_length (a b : List Int) (h : b.length = a.length) : (mxL a b).length = a.length := by simp [mxL, h]
theorem fold_length : ∀ (vs : List (List Int)) (a : List Int), (∀ v, v ∈ vs → v.length = a.length) → (vs.foldl mxL a).length = a.length
  | [], a, _ => rfl
  | v :: vs, a, h => by
    rw [List.foldl_cons, fold_length vs _ fun w hw => ?_, mxL_length _ _ (h v (by simp))]
    rw [mxL_length _ _ (h v (by simp))]
    exact h w (by simp [hw])
theorem mxk_zero (ys v : List Int) : mxk 0 ys v = ys := by simp [mxk]
theorem mxk_all (ys v : List Int) (h : v.length = ys.length) : mxk v.length ys v = mxL ys v := by
  simp only [mxk]
  rw [List.take_of_length_le (by omega), List.take_of_length_le (by omega), List.drop_of_length_le (by omega), List.append_nil]; rfl
theorem mxk_length (k : Nat) (ys v : List Int) (h : v.length = ys.length) : (mxk k ys v).length = ys.length := by
  simp only [mxk, List.length_append, List.length_zipWith, List.length_take, List.length_drop, h]; omega
theorem mxk_get (k : Nat) (ys v : List Int) (h : v.length = ys.length) (hk : k < ys.length) : (mxk k ys v)[k]? = ys[k]? := by
  have hl : (List.zipWith mx2 (ys.take k) (v.take k)).length = k := by simp; omega
  simp only [mxk]
  rw [List.getElem?_append_right (by omega), hl]
  simp
theorem mxk_succ (k : Nat) (ys v : List Int) (h : v.length = ys.length) (hk : k < ys.length) : mxk (k + 1) ys v = (mxk k ys v).set k (mx2 (ys[k]) (v[k]'(by omega))) := by
  have hl : (List.zipWith mx2 (ys.take k) (v.take k)).length = k := by simp; omega
  have hd : ys.drop k = ys[k] :: ys.drop (k + 1) := by rw [List.drop_eq_getElem_cons hk]
  simp only [mxk]
  rw [List.set_append, if_neg (by omega), hl, Nat.sub_self, hd, List.set_cons_zero, List.take_succ_eq_append_getElem hk, List.take_succ_eq_append_getElem (by omega : k < v.length), List.zipWith_append (by simp; omega)]
  simp
end Go.Proofs.Ytbohgpdpglfepaa
