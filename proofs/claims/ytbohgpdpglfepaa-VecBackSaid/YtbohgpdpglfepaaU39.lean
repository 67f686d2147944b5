import Derived.Test.YtbohgpdpglfepaaU36
import Derived.Test.YtbohgpdpglfepaaU38
set_option maxHeartbeats 4000000
set_option linter.unusedVariables false
set_option linter.unusedSimpArgs false
namespace Go.Proofs.Ytbohgpdpglfepaa
open Go.AM Go.RowKit

/-! What is written is read back; both readers read the same: plain. -/
theorem nm_enc (n : Nat) (rest : List Int) (h : n ≤ 4611686018427387903) : nm (encN n ++ rest) 0 = ((n : Int), rest, 0) := by
  unfold nm
  rw [if_pos rfl, rd_enc n rest h]
  simp only
  rw [List.drop_left']
  rfl
theorem encs_cons (n : Nat) (ns : List Nat) : encs (n :: ns) = encN n ++ encs ns := by simp [encs]
theorem rds_encs (vs : List Nat) (h : ∀ n, n ∈ vs → n ≤ 4611686018427387903) : ∀ i, i ≤ vs.length → rds i (encs vs) 0 = (pNats (vs.take i), encs (vs.drop i), 0)
  | 0, _ => by simp [rds, pNats]
  | i + 1, hi => by
    have ih := rds_encs vs h i (by omega)
    have hil : i < vs.length := by omega
    have hd : vs.drop i = vs[i] :: vs.drop (i + 1) := List.drop_eq_getElem_cons hil
    have hts : vs.take (i + 1) = vs.take i ++ [vs[i]] := List.take_succ_eq_append_getElem hil
    rw [rds, ih]
    simp only
    rw [hd, encs_cons, nm_enc _ _ (h _ (List.getElem_mem _)), hts]
    simp only [pNats, List.map_append, List.map_cons, List.map_nil]
theorem get3_enc (n1 n2 : Nat) (vs : List Nat) (h : ∀ n, n ∈ allN n1 n2 vs → n ≤ 4611686018427387903) : get3 (encs (allN n1 n2 vs)) = (((n1 : Int), (n2 : Int), (vs.length : Int)), encs vs, 0) := by
  unfold get3 allN
  rw [encs_cons, nm_enc n1 _ (h n1 (by simp [allN]))]
  simp only
  rw [encs_cons, nm_enc n2 _ (h n2 (by simp [allN]))]
  simp only
  rw [encs_cons, nm_enc vs.length _ (h vs.length (by simp [allN]))]
theorem getP_enc (n1 n2 : Nat) (vs : List Nat) (hb : balOK n1 n2 = true) (hv : vecOK (pNats vs) = true) (h : ∀ n, n ∈ allN n1 n2 vs → n ≤ 4611686018427387903) : getP (encs (allN n1 n2 vs)) = (((n1 : Int), (n2 : Int)), pNats vs, true) := by
  have hl : vs.length ≤ 7 := by
    have := vecOK7 hv
    simp only [pNats, List.length_map] at this
    omega
  have hK : getK (vs.length : Int) = vs.length := by unfold getK; rw [if_neg (by omega)]; omega
  unfold getP
  rw [get3_enc n1 n2 vs h]
  simp only
  rw [hK, rds_encs vs (fun n hn => h n (by simp [allN, hn])) vs.length (Nat.le_refl _)]
  simp [encs, hb, hv]

theorem nm_err {xs : List Int} {e : Int} (h : e ≠ 0) : nm xs e = (0, xs, e) := by unfold nm; rw [if_neg h]
theorem rds_err {xs : List Int} {e : Int} (h : e ≠ 0) : ∀ k, (rds k xs e).2.2 = e
  | 0 => rfl
  | k + 1 => by
    have ih := rds_err (xs := xs) h k
    rw [rds, ih, nm_err h]

theorem getK_in {n : Int} (h0 : 1 ≤ n) (h7 : n ≤ 7) : getK n = n.toNat := by unfold getK; rw [if_neg (by omega)]

theorem getP_ok (p : List Int) (h : refB p = false) : getP p = (((get3 p).1.1, (get3 p).1.2.1), (qR p).1, (qR p).2.2 == 0 && decide ((qR p).2.1 = [])) := by
  unfold refB at h
  simp only [Bool.or_eq_false_iff, decide_eq_false_iff_not, Bool.not_eq_false'] at h
  obtain ⟨⟨⟨g1, g2⟩, g3⟩, g4⟩ := h
  unfold getP
  simp only
  have hK := getK_in (n := (get3 p).1.2.2) (by omega) (by omega)
  rw [hK]
  have hl := rds_len (get3 p).1.2.2.toNat (get3 p).2.1 (get3 p).2.2
  have hn := rds_num (get3 p).2.1 (get3 p).2.2 (get3 p).1.2.2.toNat
  have hv : vecOK (qR p).1 = true := by
    unfold qR vecOK
    rw [hl, hn]
    simp; omega
  unfold qR at hv ⊢
  rw [g2, hv]
  simp
theorem getP_bad (p : List Int) (h : refB p = true) : (getP p).2.2 = false := by
  unfold refB at h
  have hn3 : 0 ≤ (get3 p).1.2.2 := (nm_val _ _).1
  unfold getP
  simp only
  have hl := rds_len (getK (get3 p).1.2.2) (get3 p).2.1 (get3 p).2.2
  by_cases g1 : (get3 p).2.2 = 0
  · cases g2 : balOK (get3 p).1.1 (get3 p).1.2.1 with
    | false => simp
    | true =>
      have hv : vecOK (rds (getK (get3 p).1.2.2) (get3 p).2.1 (get3 p).2.2).1 = false := by
        simp only [g1, g2, bne_self_eq_false, Bool.not_true, Bool.or_self, Bool.false_or, Bool.or_eq_true, decide_eq_true_eq] at h
        unfold vecOK
        rw [hl]
        unfold getK
        split
        · simp
        · have : (get3 p).1.2.2.toNat = 0 ∨ 8 = (get3 p).1.2.2.toNat := by omega
          rcases this with h | h
          · rw [h]; simp
          · rw [← h]; simp
      rw [hv]; simp
  · rw [rds_err g1]
    have : ((get3 p).2.2 == 0) = false := by simpa using g1
    rw [this]; simp
end Go.Proofs.Ytbohgpdpglfepaa
