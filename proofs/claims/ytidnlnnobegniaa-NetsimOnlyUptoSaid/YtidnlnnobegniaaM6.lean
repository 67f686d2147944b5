import Derived.Test.YtidnlnnobegniaaM5
set_option linter.unusedVariables false
set_option linter.unusedSimpArgs false
namespace Go.AM
open Go.RowKit
variable {C : Ctx} {σ : L}

/-! ### M6. The same, with the state that follows -/
theorem Imp.takeQE (κ κr : Nat) (x y : Int) {e eb : TypeId} {Q : QF} {hh : QHole} {ks : List Nat} (hm : Option Nat) {ms : List (List Int)} {τ : L} (hv : look σ (.vec κ) = some (.o (.qs e eb Q hh) ks)) (hk : (hh = .none ∧ hm = none ∧ ks = []) ∨ ∃ i κm, hh = .msg x y i ∧ hm = some i ∧ ks = [κm])
    (hf : notIn κr (keysL σ) = true) (hB : κr < keyB) (hms : Q x y = ms) (he : put (put σ (.vec κ) (.o (.qs e eb Q (.entry x y)) [κr])) (.vec κr) (.o (.nest e eb ms hm) ks) = τ) : Imp C σ τ := by
  subst hms; exact he ▸ Imp.takeQ κ κr x y hm hv hk hf hB
theorem Imp.putQE (κ κr : Nat) {x y : Int} {e eb : TypeId} {Q Q' : QF} {ms : List (List Int)} {hm : Option Nat} {ks : List Nat} (hh : QHole) {τ : L} (hv : look σ (.vec κ) = some (.o (.qs e eb Q (.entry x y)) [κr])) (hv2 : look σ (.vec κr) = some (.o (.nest e eb ms hm) ks))
    (hk : (hh = .none ∧ hm = none ∧ ks = []) ∨ ∃ i κm, hh = .msg x y i ∧ hm = some i ∧ ks = [κm]) (hQ : updQ Q x y ms = Q') (he : put (del σ (.vec κr)) (.vec κ) (.o (.qs e eb Q' hh) ks) = τ) : Imp C σ τ := by
  subst hQ; exact he ▸ Imp.putQ κ κr hh hv hv2 hk
theorem Imp.takeME (κ κm i : Nat) {e eb : TypeId} {ms : List (List Int)} {ks : List Nat} {m : List Int} {τ : L} (hv : look σ (.vec κ) = some (.o (.nest e eb ms none) ks)) (hm : ms[i]? = some m) (hf : notIn κm (keysL σ) = true) (hB : κm < keyB)
    (he : put (put σ (.vec κ) (.o (.nest e eb ms (some i)) [κm])) (.vec κm) (.r 1 eb (m.map fun n => [.lit (.int .u8 n)])) = τ) : Imp C σ τ := he ▸ Imp.takeM κ κm i hv hm hf hB
theorem Imp.putME (κ κm i : Nat) {e eb : TypeId} {ms ms' : List (List Int)} {m : List Int} {τ : L} (hv : look σ (.vec κ) = some (.o (.nest e eb ms (some i)) [κm])) (hv2 : look σ (.vec κm) = some (.r 1 eb (m.map fun n => [.lit (.int .u8 n)])))
    (hms : ms.set i m = ms') (he : put (del σ (.vec κm)) (.vec κ) (.o (.nest e eb ms' none) []) = τ) : Imp C σ τ := by
  subst hms; exact he ▸ Imp.putM κ κm i hv hv2
theorem Imp.adoptNE (n κ : Nat) (e eb : TypeId) {τ : L} (h : notIn κ (keysL σ) = true) (hB : κ < keyB) (hn : look σ (.slot n) = some (.s (sv (.slice none 0 0)))) (he : put (put σ (.vec κ) (.o (.nest e eb [] none) [])) (.slot n) (.s (.v (.one (.row κ)))) = τ) : Imp C σ τ := he ▸ Imp.adoptN n κ e eb h hB hn

theorem updQ_same (Q : QF) (x y : Int) (ms : List (List Int)) : updQ Q x y ms x y = ms := by simp [updQ]
theorem updQ_upd (Q : QF) (x y : Int) (ms ms' : List (List Int)) : updQ (updQ Q x y ms) x y ms' = updQ Q x y ms' := by
  funext c d; simp only [updQ]; split <;> rfl
theorem updQ_id (Q : QF) (x y : Int) : updQ Q x y (Q x y) = Q := by
  funext c d; simp only [updQ]; split
  · rename_i h; rw [h.1, h.2]
  · rfl

/-! #### a call that looks at rows of the act's own, and brings a row -/
def litRow (rows : List (List T)) : Bool := rows.all (·.all litT)
theorem vec_lit {G G' : Heap} {w : World} {v : Value} {sz : Nat} {e : TypeId} {rows : List (List T)} (hl : litRow rows = true) (h : VecRep G w v sz e rows) : VecRep G' w v sz e rows := by
  obtain ⟨h0, xs, h1, h2⟩ := h
  refine ⟨h0, xs, h1, fun i cells k t hi hk => ?_⟩
  obtain ⟨u, g1, g2, g3⟩ := h2 i cells k t hi hk
  have := List.all_eq_true.1 (List.all_eq_true.1 hl cells (List.mem_of_getElem? hi)) t (List.mem_of_getElem? hk)
  cases t with
  | lit x => have := g3.lit_inv; subst this; exact ⟨u, g1, g2, .lit u⟩
  | _ => simp [litT] at this

theorem fits_lend_own {f : FuncId} {o : Oper} {ys ys' : List V1} {args : List PV} {rd rd2 : List (Loc × Cont)} {sz : Nat} {et : TypeId} {rows : List (List T)} {κ : Nat} (hd : dstB C.N o.dst = true) (he : Enters C σ o f ys rd) (hp : Own C.P f args (.v (.one (.row 0))) sz et rows) (hle : lendL σ ys = some (ys', rd2)) (hs : All2 SubV ys' args) (hl : litRow rows = true) (hk : freshKey σ (dstN o.dst) = some κ) :
    Fits C σ o ⟨rd ++ rd2, [(.vec κ, some (.r sz et rows))] ++ wrD o.dst (.v (.one (.row κ))), [κ]⟩ := by
  obtain ⟨q1, q2⟩ := lendL_rep (C := C) hle
  refine ⟨?_, r_app he.reads q1, fun κ' hκ' => by simp at hκ'; subst hκ'; exact freshKey_spec hk⟩
  intro s a w K Q ⟨G, ρ, hrel⟩ hh hf hK
  obtain ⟨r1, r2⟩ := Reads.app.1 hh
  obtain ⟨vals, hex, hvals⟩ := he.exec hrel r1
  unfold Oper.wp
  rw [hex]
  simp only [Oper.upon]
  refine (hp (whole w) w vals (fun _ _ h => h) (All2.imp2 (R := V1Rep (whole w) noPlaces) (S := SubV) (fun _ _ _ h1 h2 => SubV.rep (ρ' := noPlaces) h2 h1) (q2 hrel r2 hvals) hs)).mono ?_
  rintro e w' ⟨v, rfl, G', ρv, h1, h2, h3, h4, h5, h6, h7⟩
  refine hK _ _ ?_
  have hm : ¬ Mentions s κ := hf κ (by simp)
  have h8 := hrel.newVec (κ := κ) hm h5 (vec_lit (G' := G) hl h6) fun b hb => (h7 b hb).2
  have hv : SVRep G (setAt ρ κ (ρv 0)) v (.v (.one (.row κ))) := by
    obtain ⟨k1, k2, k3⟩ := h1
    exact ⟨k1, by rw [setAt_same]; exact k2, by rw [setAt_same]; exact k3⟩
  cases hdst : o.dst with
  | none => exact ⟨G, _, h8⟩
  | some d => exact ⟨G, _, h8.put (dstB_ok hd d hdst) hv⟩

theorem runD_lend_own {K : L → List Action → Prop} {ds : List (Option Nat)} {P : Program} {f : FuncId} {o : Oper} {ys ys' : List V1} {rd rd2 : List (Loc × Cont)} {args : List PV} {sz : Nat} {et : TypeId} {rows : List (List T)} {κ : Nat} {rest : List Oper} {acts : List Action} (hp : Own P f args (.v (.one (.row 0))) sz et rows) (hc : callB P f = true) (hP : C.P = P)
    (hr : callR C ds σ o = some (f, ys, rd)) (hle : lendL σ ys = some (ys', rd2)) (hs : All2 SubV ys' args) (hl : litRow rows = true) (hk : freshKey σ (dstN o.dst) = some κ)
    (k : RunD C ds rest (applyL σ ([(.vec κ, some (.r sz et rows))] ++ wrD o.dst (.v (.one (.row κ))))) (acts ++ [⟨rd ++ rd2, [(.vec κ, some (.r sz et rows))] ++ wrD o.dst (.v (.one (.row κ))), [κ]⟩]) K) : RunD C ds (o :: rest) σ acts K := by
  subst hP
  obtain ⟨gd, rd', he, hd, hg, rfl⟩ := callR_enters hc hr
  unfold RunD
  refine guardR_sound hg (fits_lend_own hd he hp hle hs hl hk) ?_
  simpa using k
end Go.AM
