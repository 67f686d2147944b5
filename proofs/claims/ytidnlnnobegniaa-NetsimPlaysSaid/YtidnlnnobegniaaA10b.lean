import Derived.Test.YtidnlnnobegniaaA10
set_option linter.unusedVariables false
set_option linter.unusedSimpArgs false
namespace Go.AM
open Go.RowKit

variable {C : Ctx} {g : State} {o : Oper}

/-! #### copying a whole row -/
theorem ok_copy {x z : Operand} {t u e e' : TypeId} {i j : TInfo} {κ : Nat} {rows xr : List (List T)} {rd : List (Loc × Cont)} (ho : o.op = .call { callee := .builtin .copy, args := #[x, z], argTypes := #[t, u] }) (hd : dstOK C o.dst)
    (ht : tinfo C.P t = some i) (hk : i.k = .slice e) (hj : tinfo C.P e = some j) (hj1 : j.size = 1) (hx : ev g x = some (.v (.one (.row κ)))) (hz : SrcOf g z 1 xr rd) (hlen : xr.length = rows.length) :
    OpOK C o ⟨evr g x ++ [(.vec κ, .r 1 e' rows)] ++ rd, [(.vec κ, some (.r 1 e' xr))] ++ wrD o.dst (sv (.int .i64 xr.length)), []⟩ :=
  opok_val hd fun G ρ s a w hrel hr hf => by
    obtain ⟨r12, r3⟩ := Reads.app.1 hr
    obtain ⟨r1, r2⟩ := Reads.app.1 r12
    have r2 := (Reads.cons.1 r2).1
    obtain ⟨_, e1, _⟩ := ev_rep hx r1 hrel
    obtain ⟨sz', et2, rows2, g1, g2⟩ := hrel.vecr r2
    injection g1 with g1 g1' g1''
    subst g1; subst g1'; subst g1''
    obtain ⟨news, hs⟩ := hz.src hrel r3
    obtain ⟨h0, xs, hown, hel⟩ := g2
    have hu := und_slice ht hk
    obtain ⟨inf, dd, zz, hsp⟩ := tinfo_spec hj
    have hinf : (C.P.info? e).map (·.size) = some 1 := by rw [hsp.info]; simp [hsp.size, hj1]
    have hnl : news.length = xr.length := by simpa using hs.len
    have hexec : ∀ v' w', (Builtin.copy_ #[t, u] o.type #[ρ κ, a.eval z]).run C.P w = .ok v' w' → (execOp a.eval o).run C.P w = .ok (.value v') w' := fun v' w' h => by
      simp [execOp, ho, resolve, invoke, builtin, e1, h]
    rcases hown.2 with ⟨f1, f2⟩ | ⟨b, cap, cur, f1, _, f3, f4, f5, f6, f7⟩
    · have hx0 : xr = [] := List.eq_nil_of_length_eq_zero (by omega)
      have hr0 : rows = [] := List.eq_nil_of_length_eq_zero f2
      subst hx0; subst hr0
      refine ⟨.int .i64 0, w, G, ρ, hexec _ _ ?_, ?_, sv_rep rfl⟩
      · rw [f1]
        rcases hs.val with ⟨v1, _⟩ | ⟨ad, c, v1, _⟩ <;> rw [v1]
        · simp [Builtin.copy_, run_underlying hu, Builtin.lenOf, Builtin.firstCells, hsp.run_size, goInt]
        · have hl0 := run_loadCells_list (P := C.P) w ad [] (by simp)
          simp only [List.length_nil] at hl0
          simp [Builtin.copy_, run_underlying hu, Builtin.lenOf, Builtin.firstCells, hsp.run_size, goInt, hl0]
      · have : applys s [(.vec κ, some (.r 1 e' []))] = s := by
          funext l
          simp only [applys, List.foldl_cons, List.foldl_nil, upd]
          split
          · rename_i h; subst h; exact r2.symm
          · rfl
        rw [this]; exact hrel
    · rcases hs.val with ⟨v1, v2⟩ | ⟨ad, c, v1, v2, v3⟩
      · subst v2
        have hr0 : rows = [] := List.eq_nil_of_length_eq_zero (by simpa using hlen.symm)
        subst hr0
        refine ⟨.int .i64 0, w, G, ρ, hexec _ _ ?_, ?_, sv_rep rfl⟩
        · rw [f1, v1]; exact run_copy_nil C.P w t u o.type e _ _ _ hu (by rw [hsp.info]; rfl)
        · have : applys s [(.vec κ, some (.r 1 e' []))] = s := by
            funext l
            simp only [applys, List.foldl_cons, List.foldl_nil, upd]
            split
            · rename_i h; subst h; exact r2.symm
            · rfl
          rw [this]; exact hrel
      · have hrun := run_copy_row (P := C.P) w t u o.type e b 0 rows.length cap ad xr.length c cur e' news hu hinf f3 (by rw [hnl, ← hlen]; simp) v3 (by simp; omega) hs.one
        refine ⟨.int .i64 xr.length, w.setRow b (cur.toList.take 0 ++ news ++ cur.toList.drop (0 + news.length)).toArray, G, ρ, hexec _ _ ?_, ?_, sv_rep rfl⟩
        · rw [f1, v1, hrun, hnl]; rfl
        · have hcl : (cur.toList.take 0 ++ news ++ cur.toList.drop (0 + news.length)).length = cur.size := by simp; omega
          refine hrel.write (κ := κ) (b := b) ⟨_, _, r2, rfl⟩ (by rw [f1]; rfl) f3 (fun l hl => by
            simp only [applys, List.foldl_cons, List.foldl_nil]
            exact upd_ne _ _ (by rintro rfl; exact hl rfl)) (fun l c hk hl => by
              by_cases hlv : l = .vec κ
              · subst hlv; exact ⟨_, r2⟩
              · simp only [applys, List.foldl_cons, List.foldl_nil] at hl
                rw [upd_ne _ _ hlv] at hl; exact ⟨c, hl⟩)
            (by simpa using hcl) (fun _ => .inr ⟨_, _, r2, .inr rfl⟩) ?_ ?_
          · intro k' x' hx'
            simp only [applys, List.foldl_cons, List.foldl_nil] at hx'
            rw [upd_ne _ _ (by simp)] at hx'
            obtain ⟨_, b2, _, _, _, _, h8, _⟩ := hrel.cell κ k' x' hx'
            rw [f1] at h8; simp at h8
          · intro x' hx'
            simp only [applys, List.foldl_cons, List.foldl_nil, upd_same, Option.some.injEq] at hx'
            subst hx'
            refine (show VecRep _ _ _ _ _ _ from ⟨hs.shape, news, ⟨by simpa using hs.len, .inr ⟨b, cap, _, by rw [f1, hlen], Nat.zero_le _, setRow_heap w b cur _ e' (0, 0) f3, by omega, f5, ?_, ?_⟩⟩, hs.el⟩)
            · rw [← f6]; simpa using hcl
            · simp [hnl]

/-! #### structs of numbers: equal? -/
def kindsOK (P : Program) : List (Nat × TypeId) → List Value → Bool
  | [], [] => true
  | (_, t) :: fs, v :: vs => (match tinfo P t with
    | some j => !j.agg && (match j.k, v with
      | .int k, .int k' _ => decide (k = k')
      | .bool, .bool _ => true
      | _, _ => false)
    | none => false) && kindsOK P fs vs
  | _, _ => false

theorem kindsOK_spec {P : Program} : ∀ {fs : List (Nat × TypeId)} {vs : List Value}, kindsOK P fs vs = true → vs.length = fs.length ∧
    (∀ f, f ∈ fs → ∃ j, tinfo P f.2 = some j ∧ ((∃ k, j.k = .int k) ∨ j.k = .bool) ∧ j.agg = false) ∧
    (∀ (i : Nat) f v, fs[i]? = some f → vs[i]? = some v → ∀ j, tinfo P f.2 = some j → (∃ k a, j.k = .int k ∧ v = .int k a) ∨ (∃ a, j.k = .bool ∧ v = .bool a))
  | [], [], _ => ⟨rfl, by simp, by simp⟩
  | [], _ :: _, h => by simp [kindsOK] at h
  | _ :: _, [], h => by simp [kindsOK] at h
  | (o, t) :: fs, v :: vs, h => by
    simp only [kindsOK, Bool.and_eq_true] at h
    obtain ⟨h1, h2⟩ := h
    obtain ⟨i1, i2, i3⟩ := kindsOK_spec h2
    split at h1
    · rename_i j hj
      simp only [Bool.and_eq_true, Bool.not_eq_true'] at h1
      obtain ⟨ha, hkv⟩ := h1
      have hcase : (∃ k a, j.k = .int k ∧ v = .int k a) ∨ (∃ a, j.k = .bool ∧ v = .bool a) := by
        split at hkv
        · rename_i k k' n hk
          simp only [decide_eq_true_eq] at hkv
          subst hkv
          exact .inl ⟨k, n, hk, rfl⟩
        · rename_i b hk; exact .inr ⟨b, hk, rfl⟩
        · simp at hkv
      refine ⟨by simp [i1], ?_, ?_⟩
      · intro f hf
        rcases List.mem_cons.1 hf with rfl | hf
        · refine ⟨j, hj, ?_, ha⟩
          rcases hcase with ⟨k, _, h, _⟩ | ⟨_, h, _⟩
          · exact .inl ⟨k, h⟩
          · exact .inr h
        · exact i2 f hf
      · intro i f v' hf hv j' hj'
        cases i with
        | zero =>
          simp only [List.getElem?_cons_zero, Option.some.injEq] at hf hv
          subst hf; subst hv
          rw [hj] at hj'
          injection hj' with hj'
          subst hj'
          exact hcase
        | succ i => exact i3 i f v' (by simpa using hf) (by simpa using hv) j' hj'
    · simp at h1

def litsOf : List At → Option (List Value)
  | [] => some []
  | .t (.lit v) :: r => (litsOf r).map (v :: ·)
  | _ :: _ => none
theorem litsOf_spec : ∀ {cs : List At} {vs : List Value}, litsOf cs = some vs → cs = lits vs
  | [], vs, h => by simp [litsOf] at h; subst h; rfl
  | c :: cs, vs, h => by
    cases c with
    | t x =>
      cases x with
      | lit v =>
        simp only [litsOf, Option.map_eq_some_iff] at h
        obtain ⟨vs', h1, rfl⟩ := h
        rw [litsOf_spec h1]; rfl
      | _ => simp [litsOf] at h
    | _ => simp [litsOf] at h

theorem lits_eq {G : Heap} {ρ : Places} : ∀ {vs us : List Value}, All2 (AtRep G ρ) us (lits vs) → us = vs
  | [], us, h => by cases h; rfl
  | v :: vs, us, h => by
    cases h with
    | cons h1 t => rw [h1.2.lit_inv, lits_eq t]

def eqop : BinOp → Bool → Option Bool
  | .eql, b => some b
  | .neq, b => some !b
  | _, _ => none

theorem ok_eqs {op : BinOp} {t yt : TypeId} {i : TInfo} {x z : Operand} {fs : List (Nat × TypeId)} {xs ys : List Value} {b c : Bool} (ho : o.op = .binOp op t x z yt) (hd : dstOK C o.dst) (ht : tinfo C.P t = some i) (hk : i.k = .struct fs) (hq : i.eqok = true)
    (hx : ev g x = some (.v (.agg (lits xs)))) (hz : ev g z = some (.v (.agg (lits ys)))) (hp : fieldsPlain 0 fs = true) (hkx : kindsOK C.P fs xs = true) (hky : kindsOK C.P fs ys = true) (he : eqAll (xs.zip ys) = some b) (hc : eqop op b = some c) : OpOK C o ⟨evr g x ++ evr g z, wrD o.dst (sv (.bool c)), []⟩ :=
  opok_pure hd fun G ρ s a w hrel hr => by
    obtain ⟨h1, h2⟩ := Reads.app.1 hr
    obtain ⟨us, e1, q1⟩ := ev_rep hx h1 hrel
    obtain ⟨vs, e2, q2⟩ := ev_rep hz h2 hrel
    have := lits_eq q1; subst this
    have := lits_eq q2; subst this
    obtain ⟨inf, d, zz, hs⟩ := tinfo_spec ht
    have hkd := hs.k
    rw [hk] at hkd
    have hqd := hs.eqok
    rw [hq] at hqd
    cases d <;> simp only [tkOf, TK.struct.injEq, reduceCtorEq] at hkd
    rename_i fsA
    subst hkd
    simp only [eqokOf, Bool.and_eq_true, Bool.not_eq_true', Array.all_eq_true', bne_iff_ne, ne_eq] at hqd
    obtain ⟨⟨hnm, hsi⟩, hgt⟩ := hqd
    have hfo : C.P.fieldsOf t = fsA := by simp [Program.fieldsOf, hs.und]
    have hund : C.P.underlying t = some (.struct (C.P.fieldsOf t)) := by rw [hfo]; exact hs.und
    obtain ⟨l1, a1, b1⟩ := kindsOK_spec hkx
    obtain ⟨l2, a2, b2⟩ := kindsOK_spec hky
    have heq : (Op.equalIn 10000 t (.agg us.toArray) (.agg vs.toArray)).run C.P w = .ok b w := by
      rw [run_equalIn_agg w 9999 t _ _ hund hsi, hfo]
      refine run_eqFields 9998 w fsA.toList 0 us.toArray vs.toArray b (fun f hf => hnm f (by simpa using hf)) hp ?_ ?_ ?_ ?_ ?_
      · intro f hf; exact a1 (f.offset, f.type) (List.mem_map.2 ⟨f, hf, rfl⟩)
      · simpa using l1
      · simpa using l2
      · simpa using he
      · intro i f v hf hv j hj
        have hfm : (fsA.toList.map fun f => (f.offset, f.type))[i]? = some (f.offset, f.type) := by rw [List.getElem?_map, hf]; rfl
        rcases hv with hv | hv
        · exact b1 i _ v hfm (by simpa using hv) j hj
        · exact b2 i _ v hfm (by simpa using hv) j hj
    refine ⟨.bool c, ?_, sv_rep rfl⟩
    simp only [execOp, ho, e1, e2, Sem.run_bind, run_eqGuard_agg (P := C.P) w op t x z us.toArray vs.toArray hgt, Result.andThen_ok]
    cases op <;> simp only [eqop, reduceCtorEq, Option.some.injEq] at hc
    · subst hc; rw [run_eql_struct, heq]; rfl
    · subst hc; rw [run_neq_struct, heq]; rfl
end Go.AM
