import Derived.Test.YtidnlnnobegniaaA11
set_option linter.unusedVariables false
set_option linter.unusedSimpArgs false
namespace Go.AM
open Go.RowKit

variable {C : Ctx} {σ : L} {o : Oper} {x : Action}

/-- An action that is right here. -/
structure Fits (C : Ctx) (σ : L) (o : Oper) (x : Action) : Prop where
  ok : OpOK C o x
  rd : Reads x.rd (look σ)
  new : ∀ κ, κ ∈ x.new → ¬ Mentions (look σ) κ

theorem fits_pure {rd : List (Loc × Cont)} {wr : List (Loc × Option Cont)} (h : OpOK C o ⟨rd, wr, []⟩) (hr : Reads rd (look σ)) : Fits C σ o ⟨rd, wr, []⟩ := ⟨h, hr, by simp⟩
theorem r_app {rd rd' : List (Loc × Cont)} {s : State} (h : Reads rd s) (h' : Reads rd' s) : Reads (rd ++ rd') s := Reads.app.2 ⟨h, h'⟩
theorem r_one {l : Loc} {c : Cont} {s : State} (h : s l = some c) : Reads [(l, c)] s := Reads.cons.2 ⟨h, Reads.nil⟩

theorem act1_ok {z : Operand} (hd : dstOK C o.dst) (ho : o.op = .move z ∨ o.op = .assign z) (h : act1 C.P σ o z = some x) : Fits C σ o x := by
  unfold act1 at h
  split at h
  · rename_i y hy; injection h with h; subst h
    exact fits_pure (ok_move ho hd hy) (evr_self _ _)
  · simp at h

theorem actPick_ok {c u v : Operand} (hd : dstOK C o.dst) (ho : o.op = .pick c u v) (h : actPick σ o c u v = some x) : Fits C σ o x := by
  unfold actPick at h
  split at h
  · rename_i yc hc
    split at h
    · rename_i b hb
      split at h
      · rename_i y hy; injection h with h; subst h
        exact fits_pure (ok_pick ho hd hc hb hy) (r_app (evr_self _ _) (evr_self _ _))
      · simp at h
    · simp at h
  · simp at h

theorem actNil_ok {z : Operand} (hd : dstOK C o.dst) (ho : o.op = .nilCheck z) (h : actNil σ o z = some x) : Fits C σ o x := by
  unfold actNil at h
  split at h
  · rename_i κ off hy; injection h with h; subst h
    exact fits_pure (ok_nil ho hd hy (.inl ⟨κ, off, rfl⟩)) (evr_self _ _)
  · rename_i κ sz i k hy; injection h with h; subst h
    exact fits_pure (ok_nil ho hd hy (.inr (.inl ⟨κ, sz, i, k, rfl⟩))) (evr_self _ _)
  · rename_i cs hy; injection h with h; subst h
    exact fits_pure (ok_nil ho hd hy (.inr (.inr ⟨cs, rfl⟩))) (evr_self _ _)
  · simp at h

theorem actBin_ok {op : BinOp} {t yt : TypeId} {u v : Operand} (hd : dstOK C o.dst) (ho : o.op = .binOp op t u v yt) (h : actBin C.P σ o op t u v = some x) : Fits C σ o x := by
  unfold actBin at h
  split at h
  · simp at h
  · rename_i i hi
    split at h
    · simp at h
    · rename_i yx hx
      split at h
      · simp at h
      · rename_i yz hz
        split at h
        · simp at h
        · rename_i vx hvx
          split at h
          · simp at h
          · rename_i vz hvz
            split at h
            · simp at h
            · rename_i w hw; injection h with h; subst h
              exact fits_pure (ok_bin ho hd hi hx hz hvx hvz hw) (r_app (evr_self _ _) (evr_self _ _))

theorem actPtrNil_ok {op : BinOp} {t yt : TypeId} {u v : Operand} (hd : dstOK C o.dst) (ho : o.op = .binOp op t u v yt) (h : actPtrNil C.P σ o op t u v = some x) : Fits C σ o x := by
  unfold actPtrNil at h
  split at h
  · simp at h
  · rename_i i hi
    split at h
    · rename_i e hk
      split at h
      · simp at h
      · rename_i yx hx
        split at h
        · rename_i hat
          split at h
          · rename_i hz
            have key : ∀ b, (op = .eql ∧ b = false) ∨ (op = .neq ∧ b = true) → Fits C σ o ⟨evr (look σ) u ++ evr (look σ) v, wrD o.dst (sv (.bool b)), []⟩ := fun b hb => by
              refine fits_pure (opok_pure hd fun G ρ s a w hrel hr => ?_) (r_app (evr_self _ _) (evr_self _ _))
              obtain ⟨r1, r2⟩ := Reads.app.1 hr
              have h1 := ev_rep hx r1 hrel
              have h2 := (ev_rep hz r2 hrel).2.lit_inv
              have : ∃ ad, a.eval u = .pointer (some ad) := by
                unfold isAt at hat
                split at hat
                · obtain ⟨_, b, _, e⟩ := h1; exact ⟨_, e⟩
                · obtain ⟨_, ad, e, _⟩ := h1; exact ⟨_, e⟩
                · obtain ⟨_, h1⟩ := h1
                  generalize a.eval u = vv at h1
                  cases h1 with
                  | ptr ad _ _ _ _ => exact ⟨_, rfl⟩
                · simp at hat
              obtain ⟨ad, e1⟩ := this
              have hb2 : binv i.k op (.pointer (some ad)) (.pointer none) = some (.bool b) := by
                rcases hb with ⟨rfl, rfl⟩ | ⟨rfl, rfl⟩ <;> simp [binv, hk]
              refine ⟨_, ?_, sv_rep (v := .bool b) rfl⟩
              have := run_binv hi hb2 u v w
              simp only [execOp, ho, e1, h2, Sem.run_bind, this, Result.andThen_ok, Sem.run_pure]
            split at h
            · injection h with h; subst h; exact key _ (.inl ⟨rfl, rfl⟩)
            · injection h with h; subst h; exact key _ (.inr ⟨rfl, rfl⟩)
            · simp at h
          · simp at h
        · simp at h
    · simp at h

theorem capsL_rep {G : Heap} {ρ : Places} {s : State} {a : Act} {w : World} (hrel : RelG C G ρ s a w) {g : State} : ∀ {xs : List Operand} {ts : List T} {rd : List (Loc × Cont)}, capsL g xs = some (ts, rd) → Reads rd s → xs.length = ts.length ∧ ∃ u : Nat → Value, ∀ (k : Nat) z, xs[k]? = some z → a.eval z = u k ∧ (u k).oneCell' = true ∧ ∀ t, ts[k]? = some t → VRep G (u k) t
  | [], ts, rd, h, _ => by simp [capsL] at h; obtain ⟨rfl, rfl⟩ := h; exact ⟨rfl, fun _ => undef, by simp⟩
  | z :: zs, ts, rd, h, hr => by
    simp only [capsL] at h
    have fin : ∀ {t ts' rd' u0}, capsL g zs = some (ts', rd') → Reads rd' s → a.eval z = u0 → u0.oneCell' = true → VRep G u0 t → (z :: zs).length = (t :: ts').length ∧ ∃ u : Nat → Value, ∀ (k : Nat) z', (z :: zs)[k]? = some z' → a.eval z' = u k ∧ (u k).oneCell' = true ∧ ∀ t', (t :: ts')[k]? = some t' → VRep G (u k) t' := by
      intro t ts' rd' u0 h2 r2 e0 e1 e2
      obtain ⟨hl, u, hu⟩ := capsL_rep hrel h2 r2
      refine ⟨by simp [hl], fun k => match k with | 0 => u0 | k + 1 => u k, fun k z' hz => ?_⟩
      cases k with
      | zero => simp at hz; subst hz; exact ⟨e0, e1, fun t' ht => by simp at ht; subst ht; exact e2⟩
      | succ k => simp at hz; obtain ⟨a1, a2, a3⟩ := hu k z' hz; exact ⟨a1, a2, fun t' ht => a3 t' (by simpa using ht)⟩
    split at h
    · rename_i t hz
      split at h
      · rename_i ts' rd' h2
        simp only [Option.some.injEq, Prod.mk.injEq] at h
        obtain ⟨rfl, rfl⟩ := h
        obtain ⟨r1, r2⟩ := Reads.app.1 hr
        have h1 := ev_rep hz r1 hrel
        exact fin h2 r2 rfl h1.1 h1.2
      · simp at h
    · rename_i cs hz
      split at h
      · rename_i ts' rd' h2
        simp only [Option.some.injEq, Prod.mk.injEq] at h
        obtain ⟨rfl, rfl⟩ := h
        obtain ⟨r1, r2⟩ := Reads.app.1 hr
        have h1 := ev_rep hz r1 hrel
        exact fin h2 r2 rfl h1.1 (ptr_rep h1.2)
      · simp at h
    · simp at h
theorem capsL_reads {g : State} : ∀ {xs : List Operand} {ts : List T} {rd : List (Loc × Cont)}, capsL g xs = some (ts, rd) → Reads rd g
  | [], ts, rd, h => by simp [capsL] at h; obtain ⟨rfl, rfl⟩ := h; exact Reads.nil
  | z :: zs, ts, rd, h => by
    simp only [capsL] at h
    split at h
    · split at h
      · rename_i h2
        simp only [Option.some.injEq, Prod.mk.injEq] at h
        obtain ⟨rfl, rfl⟩ := h
        exact r_app (evr_self _ _) (capsL_reads h2)
      · simp at h
    · split at h
      · rename_i h2
        simp only [Option.some.injEq, Prod.mk.injEq] at h
        obtain ⟨rfl, rfl⟩ := h
        exact r_app (evr_self _ _) (capsL_reads h2)
      · simp at h
    · simp at h

theorem actFunc_ok {fn : Fn} {first caps : Array Operand} (hd : dstOK C o.dst) (ho : o.op = .makeFunc fn first caps) (h : actFunc σ o fn first caps = some x) : Fits C σ o x := by
  unfold actFunc at h
  split at h
  · rename_i f
    split at h
    · rename_i hfirst
      split at h
      · rename_i ts rd hc
        injection h with h
        subst h
        refine fits_pure (opok_pure hd fun G ρ s a w hrel hr => ?_) (capsL_reads hc)
        obtain ⟨hl, u, hu⟩ := capsL_rep hrel hc hr
        have hf0 : first.map a.eval = #[] := by
          have : first = #[] := by apply Array.ext'; simpa using hfirst
          rw [this]; simp
        have hcm : caps.map a.eval = (caps.toList.map a.eval).toArray := by apply Array.ext'; simp
        refine ⟨.func (.func f) #[] (caps.toList.map a.eval).toArray, by simp [execOp, ho, Instr.makeFunc, hf0, hcm], rfl, .fn f _ ts u (by simp; simpa using hl) ?_ ?_⟩
        · intro k v hv
          simp only [List.getElem?_map, Option.map_eq_some_iff] at hv
          obtain ⟨z, hz, rfl⟩ := hv
          obtain ⟨a1, a2, _⟩ := hu k z hz
          exact ⟨a1, by rw [a1]; exact a2⟩
        · intro k t ht
          have hk : k < caps.toList.length := by rw [hl]; exact (List.getElem?_eq_some_iff.1 ht).1
          exact (hu k _ (List.getElem?_eq_getElem hk)).2.2 t ht
      · simp at h
    · simp at h
  · simp at h

theorem actUn_ok {op : UnOp} {t : TypeId} {u : Operand} (hd : dstOK C o.dst) (ho : o.op = .unOp op t u) (h : actUn σ o op u = some x) : Fits C σ o x := by
  unfold actUn at h
  split at h
  · simp at h
  · rename_i yx hx
    split at h
    · simp at h
    · rename_i vx hvx
      split at h
      · simp at h
      · rename_i w hw; injection h with h; subst h
        exact fits_pure (ok_un ho hd hx hvx hw) (evr_self _ _)

theorem actConv_ok {s d : TypeId} {u : Operand} (hd : dstOK C o.dst) (ho : o.op = .convert s d u) (h : actConv C.P σ o s d u = some x) : Fits C σ o x := by
  unfold actConv at h
  split at h
  · simp at h
  · rename_i i hi
    split at h
    · simp at h
    · rename_i j hj
      split at h
      · rename_i k hk
        split at h
        · simp at h
        · rename_i yx hx
          split at h
          · rename_i k' n hv; injection h with h; subst h
            exact fits_pure (ok_conv_int ho hd hi hj hk hx hv) (evr_self _ _)
          · simp at h
      · simp at h

theorem actExtract_ok {u : Operand} {ix : Nat} (hd : dstOK C o.dst) (ho : o.op = .extract u ix) (h : actExtract σ o u ix = some x) : Fits C σ o x := by
  unfold actExtract at h
  split at h
  · rename_i xs hx
    split at h
    · rename_i y hy; injection h with h; subst h
      exact fits_pure (ok_extract ho hd hx hy) (evr_self _ _)
    · simp at h
  · simp at h

theorem actFieldAddr_ok {t : TypeId} {u : Operand} {f : Nat} (hd : dstOK C o.dst) (ho : o.op = .fieldAddr t u f) (h : actFieldAddr C.P σ o t u f = some x) : Fits C σ o x := by
  unfold actFieldAddr at h
  split at h
  · simp at h
  · rename_i i hi
    split at h
    · rename_i fs hk
      split at h
      · simp at h
      · rename_i off ft hf
        split at h
        · simp at h
        · rename_i j hj
          split at h
          · simp at h
          · rename_i h0
            split at h
            · rename_i κ k hy; injection h with h; subst h
              exact fits_pure (ok_fieldAddr ho hd hi hk hf hj h0 hy (.inl ⟨κ, k, rfl, rfl⟩)) (evr_self _ _)
            · rename_i κ sz i2 k hy; injection h with h; subst h
              exact fits_pure (ok_fieldAddr ho hd hi hk hf hj h0 hy (.inr (.inl ⟨κ, sz, i2, k, rfl, rfl⟩))) (evr_self _ _)
            · rename_i cs hy; injection h with h; subst h
              exact fits_pure (ok_fieldAddr ho hd hi hk hf hj h0 hy (.inr (.inr ⟨cs, rfl, rfl⟩))) (evr_self _ _)
            · simp at h
    · simp at h

theorem actField_ok {t : TypeId} {u : Operand} {f : Nat} (hd : dstOK C o.dst) (ho : o.op = .field t u f) (h : actField C.P σ o t u f = some x) : Fits C σ o x := by
  unfold actField at h
  split at h
  · simp at h
  · rename_i i hi
    split at h
    · rename_i fs hk
      split at h
      · simp at h
      · rename_i off ft hf
        split at h
        · simp at h
        · rename_i j hj
          split at h
          · rename_i cs hy
            split at h
            · rename_i hl
              split at h
              · rename_i y hmk; injection h with h; subst h
                exact fits_pure (ok_field ho hd hi hk hf hj hy hl hmk) (evr_self _ _)
              · simp at h
            · simp at h
          · simp at h
    · simp at h

theorem actAlloc_ok {t : TypeId} (hd : dstOK C o.dst) (ho : o.op = .alloc t) (h : actAlloc C.P σ o t = some x) : Fits C σ o x := by
  unfold actAlloc at h
  split at h
  · simp at h
  · rename_i i hi
    split at h
    · rename_i n e hk
      split at h
      · rename_i j hj
        split at h
        · rename_i h1
          split at h
          · rename_i κ hκ; injection h with h; subst h
            exact ⟨ok_alloc_arr ho hd hi (sameVs_spec h1.1) h1.2.1 h1.2.2.1 h1.2.2.2, Reads.nil, fun κ' h' => by simp at h'; subst h'; exact freshKey_spec hκ⟩
          · simp at h
        · simp at h
      · simp at h
    · split at h
      · rename_i h1
        split at h
        · rename_i κ hκ; injection h with h; subst h
          exact ⟨ok_alloc ho hd hi h1, Reads.nil, fun κ' h' => by simp at h'; subst h'; exact freshKey_spec hκ⟩
        · simp at h
      · simp at h

theorem actBox_ok {t : TypeId} {u : Operand} (hd : dstOK C o.dst) (ho : o.op = .box t u) (h : actBox σ o u = some x) : Fits C σ o x := by
  unfold actBox at h
  split at h
  · rename_i y hy
    split at h
    · rename_i κ hκ
      split at h
      · rename_i hn; injection h with h; subst h
        exact ⟨ok_box ho hd hy (keysOf_mem (notIn_spec hn)), evr_self _ _, fun κ' h' => by simp at h'; subst h'; exact freshKey_spec hκ⟩
      · simp at h
    · simp at h
  · simp at h

theorem actLoad_ok {t : TypeId} {u : Operand} (hd : dstOK C o.dst) (ho : o.op = .load t u) (h : actLoad C.P σ o t u = some x) : Fits C σ o x := by
  unfold actLoad at h
  split at h
  · simp at h
  · rename_i i hi
    split at h
    · simp at h
    · rename_i h0
      split at h
      · rename_i κ off hu
        split at h
        · rename_i ys hys
          split at h
          · rename_i y hy; injection h with h; subst h
            obtain ⟨h1, h2⟩ := takeC_reads hys
            exact fits_pure (ok_load_var ho hd hi hu h2 (by rintro rfl; simp at h2; omega) hy) (r_app (evr_self _ _) h1)
          · simp at h
        · simp at h
      · rename_i cs hu
        split at h
        · rename_i hl
          split at h
          · rename_i y hy; injection h with h; subst h
            exact fits_pure (ok_load_tree ho hd hi hu hl hy) (evr_self _ _)
          · simp at h
        · simp at h
      · rename_i κ sz ix k hu
        split at h
        · rename_i sz' e rows hv
          split at h
          · rename_i he; subst he
            split at h
            · rename_i cells hc
              split at h
              · rename_i hl
                split at h
                · rename_i y hy; injection h with h; subst h
                  exact fits_pure (ok_load_vec ho hd hi hu hc hl hy) (r_app (evr_self _ _) (r_one hv))
                · simp at h
              · simp at h
            · simp at h
          · simp at h
        · simp at h
      · simp at h

theorem actStore_ok {t : TypeId} {u z : Operand} (ho : o.op = .store t u z) (h : actStore C.P σ o t u z = some x) : Fits C σ o x := by
  unfold actStore at h
  split at h
  · simp at h
  · rename_i hd
    split at h
    · simp at h
    · rename_i i hi
      split at h
      · simp at h
      · rename_i h0
        split at h
        · rename_i y hz
          split at h
          · rename_i hyl
            split at h
            · rename_i κ off hu
              split at h
              · rename_i old hold; injection h with h; subst h
                obtain ⟨h1, h2⟩ := takeC_reads hold
                exact fits_pure (ok_store_var ho hd hi hu hz h2 hyl (by rintro rfl; simp at h2; omega)) (r_app (r_app (evr_self _ _) (evr_self _ _)) h1)
              · simp at h
            · rename_i κ sz ix k hu
              split at h
              · rename_i ts hts
                split at h
                · rename_i sz' e rows hv
                  split at h
                  · rename_i he; subst he
                    split at h
                    · rename_i cells hc
                      split at h
                      · rename_i hfit; injection h with h; subst h
                        have e1 := treesOf_spec hts
                        exact fits_pure (ok_store_vec ho hd hi hu hz e1 (by rw [e1] at hyl; simpa [trees] using hyl) hc hfit) (r_app (r_app (evr_self _ _) (evr_self _ _)) (r_one hv))
                      · simp at h
                    · simp at h
                  · simp at h
                · simp at h
              · simp at h
            · simp at h
          · simp at h
        · simp at h

theorem actIndex_ok {t : TypeId} {u z : Operand} (hd : dstOK C o.dst) (ho : o.op = .indexAddr t u z) (h : actIndex C.P σ o t u z = some x) : Fits C σ o x := by
  unfold actIndex at h
  split at h
  · simp at h
  · rename_i i hi
    split at h
    · simp at h
    · rename_i yz hz
      split at h
      · rename_i k ix hvz
        split at h
        · rename_i h0
          split at h
          · rename_i e hk
            split at h
            · simp at h
            · rename_i j hj
              split at h
              · rename_i sz rows hu
                split at h
                · rename_i hs; subst hs
                  split at h
                  · rename_i cells hc; injection h with h; subst h
                    exact fits_pure (ok_index_tree ho hd hi hk hj hu hz hvz h0 hc) (r_app (evr_self _ _) (evr_self _ _))
                  · simp at h
                · simp at h
              · rename_i κ hu
                split at h
                · rename_i sz et rows hv
                  split at h
                  · rename_i hs; subst hs
                    split at h
                    · rename_i hlt; injection h with h; subst h
                      exact fits_pure (ok_index_row ho hd hi hk hj hu hz hvz h0 hlt) (r_app (r_app (evr_self _ _) (evr_self _ _)) (r_one hv))
                    · simp at h
                  · simp at h
                · simp at h
              · simp at h
          · rename_i n e hk
            split at h
            · simp at h
            · rename_i j hj
              split at h
              · rename_i κ sz hu
                split at h
                · rename_i hs; subst hs
                  split at h
                  · rename_i hlt; injection h with h; subst h
                    exact fits_pure (ok_index_arr ho hd hi hk hj hu hz hvz h0 hlt) (r_app (evr_self _ _) (evr_self _ _))
                  · simp at h
                · simp at h
              · simp at h
          · simp at h
        · simp at h
      · simp at h

theorem actLen_ok {t : TypeId} {u : Operand} (hd : dstOK C o.dst) (ho : o.op = .call { callee := .builtin .len, args := #[u], argTypes := #[t] }) (h : actLen C.P σ o t u = some x) : Fits C σ o x := by
  unfold actLen at h
  split at h
  · simp at h
  · rename_i i hi
    split at h
    · rename_i e hk
      split at h
      · rename_i sz rows hu; injection h with h; subst h
        exact fits_pure (ok_len_tree ho hd hi hk hu) (evr_self _ _)
      · rename_i hu; injection h with h; subst h
        exact fits_pure (ok_len_nil ho hd hi hk hu) (evr_self _ _)
      · rename_i κ hu
        split at h
        · rename_i sz et rows hv; injection h with h; subst h
          exact fits_pure (ok_len_row ho hd hi hk hu) (r_app (evr_self _ _) (r_one hv))
        · simp at h
      · simp at h
    · simp at h

theorem actMx_ok {mx : Bool} {t t' : TypeId} {u v : Operand} (hd : dstOK C o.dst) (ho : o.op = .call { callee := .builtin (if mx then .max else .min), args := #[u, v], argTypes := #[t, t'] }) (h : actMx σ o mx u v = some x) : Fits C σ o x := by
  unfold actMx at h
  split at h
  · simp at h
  · rename_i yx hx
    split at h
    · simp at h
    · rename_i yz hz
      split at h
      · simp at h
      · rename_i vx hvx
        split at h
        · simp at h
        · rename_i vz hvz
          split at h
          · simp at h
          · rename_i w hw; injection h with h; subst h
            cases mx with
            | true => exact fits_pure (ok_max ho hd hx hz hvx hvz hw) (r_app (evr_self _ _) (evr_self _ _))
            | false => exact fits_pure (ok_min ho hd hx hz hvx hvz hw) (r_app (evr_self _ _) (evr_self _ _))

theorem srcL_spec {u : Operand} {sz : Nat} {rows : List (List T)} {rd : List (Loc × Cont)} (h : srcL σ u sz = some (rows, rd)) : SrcOf (look σ) u sz rows rd ∧ Reads rd (look σ) := by
  unfold srcL at h
  split at h
  · rename_i sz' rows' hu
    split at h
    · rename_i he; subst he; simp at h; obtain ⟨rfl, rfl⟩ := h; exact ⟨.tree hu, evr_self _ _⟩
    · simp at h
  · rename_i hu; simp at h; obtain ⟨rfl, rfl⟩ := h; exact ⟨.nil hu, evr_self _ _⟩
  · rename_i κ hu
    split at h
    · rename_i sz' e rows' hv
      split at h
      · rename_i he; subst he; simp at h; obtain ⟨rfl, rfl⟩ := h; exact ⟨.row hu, r_app (evr_self _ _) (r_one hv)⟩
      · simp at h
    · simp at h
  · rename_i κ sz1 lo n hu
    split at h
    · rename_i sz' e rows' hv
      split at h
      · rename_i he; subst he
        split at h
        · rename_i he; subst he; simp at h; obtain ⟨rfl, rfl⟩ := h; exact ⟨.part hu, r_app (evr_self _ _) (r_one hv)⟩
        · simp at h
      · simp at h
    · simp at h
  · simp at h

theorem actAppend_ok {t u : TypeId} {y z : Operand} (hd : dstOK C o.dst) (ho : o.op = .call { callee := .builtin .append, args := #[y, z], argTypes := #[t, u] }) (h : actAppend C.P σ o y z t u = some x) : Fits C σ o x := by
  unfold actAppend at h
  split at h
  · simp at h
  · rename_i i hi
    split at h
    · rename_i e hk
      split at h
      · simp at h
      · rename_i iu hu
        split at h
        · rename_i e' hku
          split at h
          · simp at h
          · rename_i j hj
            split at h
            · simp at h
            · rename_i h0
              split at h
              · simp at h
              · rename_i xr rd hsrc
                obtain ⟨s1, s2⟩ := srcL_spec hsrc
                split at h
                · simp at h
                · rename_i κ' hκ
                  split at h
                  · rename_i hy
                    split at h
                    · rename_i hb; injection h with h; subst h
                      exact ⟨ok_append_nil ho hd hi hk hu hku hj (by omega) hy s1 (by simp only [maxLen]; omega) hb.2, r_app (evr_self _ _) s2, fun κ h' => by simp at h'; subst h'; exact freshKey_spec hκ⟩
                    · simp at h
                  · rename_i κ hy
                    split at h
                    · rename_i sz et rows hv
                      split at h
                      · rename_i he
                        obtain ⟨rfl, rfl⟩ := he
                        split at h
                        · rename_i hb; injection h with h; subst h
                          exact ⟨ok_append_row ho hd hi hk hu hku hj (by omega) hy s1 (by simp only [maxLen]; omega) hb.2, r_app (r_app (evr_self _ _) (r_one hv)) s2, fun κ h' => by simp at h'; subst h'; exact freshKey_spec hκ⟩
                        · simp at h
                      · simp at h
                    · simp at h
                  · simp at h
        · simp at h
    · simp at h

theorem actMake_ok {t : TypeId} {y z : Operand} (hd : dstOK C o.dst) (ho : o.op = .makeSlice t y z) (h : actMake C.P σ o t y z = some x) : Fits C σ o x := by
  unfold actMake at h
  split at h
  · simp at h
  · rename_i i hi
    split at h
    · rename_i e hk
      split at h
      · simp at h
      · rename_i j hj
        split at h
        · rename_i h1
          split at h
          · simp at h
          · rename_i yx hx
            split at h
            · simp at h
            · rename_i yz hz
              split at h
              · rename_i k n hvx
                split at h
                · rename_i k' n' hvz
                  split at h
                  · rename_i hb
                    obtain ⟨rfl, b1, b2, b3⟩ := hb
                    split at h
                    · rename_i κ hκ; injection h with h; subst h
                      exact ⟨ok_make ho hd hi hk hj hx hz hvx hvz b1 b2 b3 h1, r_app (evr_self _ _) (evr_self _ _), fun κ' h' => by simp at h'; subst h'; exact freshKey_spec hκ⟩
                    · simp at h
                  · simp at h
                · simp at h
              · simp at h
        · simp at h
    · simp at h

theorem parts_reads {g : State} : ∀ {ps : List (Nat × Operand)} {ys : List (Nat × V1)} {rd : List (Loc × Cont)}, parts g ps = some (ys, rd) → Reads rd g
  | [], ys, rd, h => by simp [parts] at h; obtain ⟨rfl, rfl⟩ := h; exact Reads.nil
  | (i, z) :: ps, ys, rd, h => by
    simp only [parts] at h
    split at h
    · split at h
      · rename_i ys' rd' h2
        simp at h
        obtain ⟨rfl, rfl⟩ := h
        exact r_app (evr_self _ _) (parts_reads h2)
      · simp at h
    · simp at h

theorem actBuild_ok {t : TypeId} {ps : Array (Nat × Operand)} (hd : dstOK C o.dst) (ho : o.op = .build t ps) (h : actBuild C.P σ o t ps = some x) : Fits C σ o x := by
  unfold actBuild at h
  split at h
  · simp at h
  · rename_i i hi
    split at h
    · rename_i fs hk
      split at h
      · rename_i h1
        split at h
        · rename_i ys rd hp
          split at h
          · rename_i cs hc; injection h with h; subst h
            exact fits_pure (ok_build ho hd hi hk hp h1 hc) (parts_reads hp)
          · simp at h
        · simp at h
      · simp at h
    · simp at h

theorem actBuildSlice_ok {t : TypeId} {n : Nat} {ps : Array (Nat × Operand)} (hd : dstOK C o.dst) (ho : o.op = .buildSlice t n ps) (h : actBuildSlice C.P σ o t n ps = some x) : Fits C σ o x := by
  unfold actBuildSlice at h
  split at h
  · simp at h
  · rename_i i hi
    split at h
    · rename_i e hk
      split at h
      · simp at h
      · rename_i j hj
        split at h
        · simp at h
        · rename_i h0
          split at h
          · rename_i hs
            split at h
            · rename_i h1
              split at h
              · rename_i ys rd hp
                split at h
                · rename_i rows hr
                  split at h
                  · rename_i κ hκ; injection h with h; subst h
                    exact ⟨ok_buildSlice ho hd hi hk hj (by omega) hs hp h1 hr, parts_reads hp, fun κ' h' => by simp at h'; subst h'; exact freshKey_spec hκ⟩
                  · simp at h
                · simp at h
              · simp at h
            · simp at h
          · simp at h
    · simp at h

theorem boundL_spec {z : Option Operand} {d n : Nat} {rd : List (Loc × Cont)} (h : boundL σ z d = some (n, rd)) :
    Reads rd (look σ) ∧ ∃ k, (z = none ∧ n = d ∧ rd = []) ∨ ∃ u yz, z = some u ∧ ev (look σ) u = some yz ∧ litV yz = some (.int k n) ∧ rd = evr (look σ) u := by
  unfold boundL at h
  split at h
  · simp at h; obtain ⟨rfl, rfl⟩ := h; exact ⟨Reads.nil, .i64, .inl ⟨rfl, rfl, rfl⟩⟩
  · split at h
    · simp at h
    · rename_i u yz hz
      split at h
      · rename_i k m hm
        split at h
        · rename_i h0
          simp at h
          obtain ⟨rfl, rfl⟩ := h
          refine ⟨evr_self _ _, k, .inr ⟨_, _, rfl, hz, ?_, rfl⟩⟩
          rw [hm, Int.toNat_of_nonneg h0]
        · simp at h
      · simp at h

theorem actSlice_ok {t : TypeId} {y : Operand} {lo hi : Option Operand} (hd : dstOK C o.dst) (ho : o.op = .slice t y lo hi none) (h : actSlice C.P σ o t y lo hi = some x) : Fits C σ o x := by
  unfold actSlice at h
  split at h
  · simp at h
  · rename_i i hi'
    split at h
    · rename_i e hk
      split at h
      · simp at h
      · rename_i j hj
        split at h
        · rename_i sz rows hy
          split at h
          · rename_i he; subst he
            split at h
            · simp at h
            · rename_i l rl hl
              split at h
              · simp at h
              · rename_i h2 rh hh
                split at h
                · rename_i h3
                  split at h
                  · rename_i h4; injection h with h; subst h
                    obtain ⟨r1, k1, b1⟩ := boundL_spec hl
                    obtain ⟨r2, k2, b2⟩ := boundL_spec hh
                    exact fits_pure (ok_slice_tree (kl := k1) (kh := k2) ho hd hi' hk hj hy b1 b2 h3 h4) (r_app (r_app (evr_self _ _) r1) r2)
                  · simp at h
                · simp at h
          · simp at h
        · simp at h
    · simp at h

theorem call_eta {c : Call} {cl : Callee} {xs : List Operand} {ts : List TypeId} (h1 : c.callee = cl) (h2 : c.args.toList = xs) (h3 : c.argTypes.toList = ts) : c = ⟨cl, xs.toArray, ts.toArray⟩ := by
  cases c
  subst h1; subst h2; subst h3
  rfl

theorem actEqS_ok {op : BinOp} {t yt : TypeId} {u v : Operand} (hd : dstOK C o.dst) (ho : o.op = .binOp op t u v yt) (h : actEqS C.P σ o op t u v = some x) : Fits C σ o x := by
  unfold actEqS at h
  split at h
  · simp at h
  · rename_i i hi
    split at h
    · rename_i fs hk
      split at h
      · rename_i hq
        split at h
        · rename_i cs hx
          split at h
          · rename_i ds hz
            split at h
            · simp at h
            · rename_i xs hxs
              split at h
              · simp at h
              · rename_i ys hys
                split at h
                · rename_i hp
                  split at h
                  · rename_i hkx
                    split at h
                    · rename_i hky
                      split at h
                      · simp at h
                      · rename_i b hb
                        split at h
                        · simp at h
                        · rename_i c hc
                          injection h with h; subst h
                          rw [litsOf_spec hxs] at hx
                          rw [litsOf_spec hys] at hz
                          exact fits_pure (ok_eqs ho hd hi hk hq hx hz hp hkx hky hb hc) (r_app (evr_self _ _) (evr_self _ _))
                    · simp at h
                  · simp at h
                · simp at h
          · simp at h
        · simp at h
      · simp at h
    · simp at h

theorem actText_ok {s d : TypeId} {u : Operand} (hd : dstOK C o.dst) (ho : o.op = .convert s d u) (h : actText C.P σ o s d u = some x) : Fits C σ o x := by
  unfold actText at h
  split at h
  · simp at h
  · rename_i i hi
    split at h
    · rename_i e hk
      split at h
      · simp at h
      · rename_i j hj
        split at h
        · rename_i hjk
          split at h
          · simp at h
          · rename_i k hk2
            split at h
            · rename_i hkk
              split at h
              · rename_i rows hx
                split at h
                · rename_i xs hxs
                  injection h with h; subst h
                  rw [bytesOf_spec hxs] at hx
                  exact fits_pure (ok_conv_bytes ho hd hi hk hj hjk hk2 hkk hx) (evr_self _ _)
                · simp at h
              · rename_i hx
                injection h with h; subst h
                exact fits_pure (ok_conv_nil ho hd hi hk hj hjk hk2 hkk hx) (evr_self _ _)
              · simp at h
            · simp at h
        · simp at h
    · simp at h

theorem actCopy_ok {t u' : TypeId} {u v : Operand} (hd : dstOK C o.dst) (ho : o.op = .call { callee := .builtin .copy, args := #[u, v], argTypes := #[t, u'] }) (h : actCopy C.P σ o u v t = some x) : Fits C σ o x := by
  unfold actCopy at h
  split at h
  · simp at h
  · rename_i i hi
    split at h
    · rename_i e hk
      split at h
      · simp at h
      · rename_i j hj
        split at h
        · rename_i hj1
          split at h
          · simp at h
          · rename_i xr rd hsr
            obtain ⟨s1, s2⟩ := srcL_spec hsr
            split at h
            · rename_i κ hx
              split at h
              · rename_i e' rows hv
                split at h
                · rename_i hlen
                  injection h with h; subst h
                  exact fits_pure (ok_copy ho hd hi hk hj hj1 hx s1 hlen) (r_app (r_app (evr_self _ _) (r_one hv)) s2)
                · simp at h
              · simp at h
            · simp at h
        · simp at h
    · simp at h

theorem actCall_ok {c : Call} (hd : dstOK C o.dst) (ho : o.op = .call c) (h : actCall C.P σ o c = some x) : Fits C σ o x := by
  unfold actCall at h
  split at h
  · rename_i hc
    split at h
    · rename_i u hu
      split at h
      · rename_i t ht; rw [call_eta hc hu ht] at ho; exact actLen_ok hd ho h
      · simp at h
    · simp at h
  · rename_i hc
    split at h
    · rename_i u v hu
      split at h
      · rename_i t t' ht; rw [call_eta hc hu ht] at ho; exact actMx_ok (mx := true) hd ho h
      · simp at h
    · simp at h
  · rename_i hc
    split at h
    · rename_i u v hu
      split at h
      · rename_i t t' ht; rw [call_eta hc hu ht] at ho; exact actMx_ok (mx := false) hd ho h
      · simp at h
    · simp at h
  · rename_i hc
    split at h
    · rename_i u v hu
      split at h
      · rename_i t t' ht; rw [call_eta hc hu ht] at ho; exact actCopy_ok hd ho h
      · simp at h
    · simp at h
  · rename_i hc
    split at h
    · rename_i u v hu
      split at h
      · rename_i t t' ht; rw [call_eta hc hu ht] at ho; exact actAppend_ok hd ho h
      · simp at h
    · simp at h
  · simp at h

theorem act0_ok (h : act0 C.P C.N σ o = some x) : Fits C σ o x := by
  unfold act0 at h
  split at h
  · rename_i hd
    have hd := dstB_ok hd
    split at h
    · rename_i ho; exact act1_ok hd (.inl ho) h
    · rename_i ho; exact act1_ok hd (.inr ho) h
    · rename_i ho; exact actPick_ok hd ho h
    · rename_i ho; exact actNil_ok hd ho h
    · rename_i ho
      split at h
      · exact actEqS_ok hd ho h
      · split at h
        · rename_i hb; injection h with h; subst h; exact actBin_ok hd ho hb
        · exact actPtrNil_ok hd ho h
    · rename_i ho; exact actUn_ok hd ho h
    · rename_i ho
      split at h
      · exact actText_ok hd ho h
      · exact actConv_ok hd ho h
    · rename_i ho; exact actExtract_ok hd ho h
    · rename_i ho; exact actFieldAddr_ok hd ho h
    · rename_i ho; exact actField_ok hd ho h
    · rename_i ho; exact actAlloc_ok hd ho h
    · rename_i ho; exact actBox_ok hd ho h
    · rename_i ho; exact actLoad_ok hd ho h
    · rename_i ho; exact actStore_ok ho h
    · rename_i ho; exact actIndex_ok hd ho h
    · rename_i ho; exact actMake_ok hd ho h
    · rename_i ho; exact actBuild_ok hd ho h
    · rename_i ho; exact actBuildSlice_ok hd ho h
    · rename_i ho; exact actSlice_ok hd ho h
    · rename_i ho; exact actCall_ok hd ho h
    · rename_i ho; exact actFunc_ok hd ho h
    · simp at h
  · simp at h

/-! #### maps, rows of rows -/
theorem keyC_spec {g : State} {z : Operand} {p : Int × Int} (h : keyC g z = some p) : ev g z = some (pairC p.1 p.2) := by
  unfold keyC at h
  split at h
  · rename_i a b hz; injection h with h; subst h; exact hz
  · simp at h
theorem mapOf_spec {P : Program} {t v : TypeId} (h : mapOf P t = some v) : ∃ i k, tinfo P t = some i ∧ i.k = .map k v ∧ pairT P k = true := by
  unfold mapOf at h
  split at h
  · rename_i i hi
    split at h
    · rename_i k v' hk
      split at h
      · rename_i hp; injection h with h; subst h; exact ⟨i, k, hi, hk, hp⟩
      · simp at h
    · simp at h
  · simp at h

theorem actMakeMap_ok {t : TypeId} (hd : dstOK C o.dst) (ho : o.op = .makeMap t none) (h : actMakeMap C.P σ o t = some x) : Fits C σ o x := by
  unfold actMakeMap at h
  split at h
  · rename_i v hv
    split at h
    · rename_i g hg
      split at h
      · rename_i κ hκ
        injection h with h; subst h
        refine ⟨ok_makeTag ho hd ?_, Reads.nil, fun κ' hκ' => by simp at hκ'; subst hκ'; exact freshKey_spec hκ⟩
        unfold mapTag at hg
        split at hg
        · rename_i i hi
          split at hg
          · injection hg with hg; subst hg; intro w; exact cuts_made
          · split at hg
            · split at hg
              · injection hg with hg; subst hg; intro w; exact qs_made
              · simp at hg
            · simp at hg
          · simp at hg
        · simp at hg
      · simp at h
    · simp at h
  · simp at h

theorem actLookup_ok {t : TypeId} {m z : Operand} (hd : dstOK C o.dst) (ho : o.op = .lookup t m z false) (h : actLookup C.P σ o t m z = some x) : Fits C σ o x := by
  unfold actLookup at h
  split at h
  case h_2 => simp at h
  rename_i v hv
  obtain ⟨i, k, hi, hk, hp⟩ := mapOf_spec hv
  split at h
  case h_2 => simp at h
  rename_i κ hm
  split at h
  case h_2 => simp at h
  rename_i p hz
  have hz := keyC_spec hz
  split at h
  · rename_i S ks hl
    split at h
    · rename_i h0; injection h with h; subst h
      exact fits_pure (ok_lookS ho hd hi hk hp (isZI_spec h0) hm hz) (r_app (r_app (evr_self _ _) (evr_self _ _)) (r_one hl))
    · simp at h
  · rename_i e eb Q x' y' κr hl
    split at h
    · rename_i h0
      split at h
      · rename_i hxy
        obtain ⟨rfl, rfl⟩ := hxy
        injection h with h; subst h
        exact fits_pure (ok_lookQ_out ho hd hi hk hp (isZS_spec h0) hm hz) (r_app (r_app (evr_self _ _) (evr_self _ _)) (r_one hl))
      · simp at h
    · simp at h
  · rename_i e eb Q hh ks hne hl
    split at h
    · rename_i h0
      split at h
      · rename_i ho2
        injection h with h; subst h
        exact fits_pure (ok_lookQ_len ho hd hi hk hp (isZS_spec h0) hm hz ho2) (r_app (r_app (evr_self _ _) (evr_self _ _)) (r_one hl))
      · simp at h
    · simp at h
  · simp at h

theorem actMapEntry_ok {t : TypeId} {m z : Operand} (hd : dstOK C o.dst) (ho : o.op = .mapEntry t m z) (h : actMapEntry C.P σ o t m z = some x) : Fits C σ o x := by
  unfold actMapEntry at h
  split at h
  case h_2 => simp at h
  rename_i v hv
  obtain ⟨i, k, hi, hk, hp⟩ := mapOf_spec hv
  split at h
  case h_2 => simp at h
  rename_i κ hm
  split at h
  case h_2 => simp at h
  rename_i p hz
  have hz := keyC_spec hz
  split at h
  case h_2 => simp at h
  rename_i e eb Q x' y' κr hl
  split at h
  case isFalse => simp at h
  rename_i h0
  split at h
  case isFalse => simp at h
  rename_i hxy
  obtain ⟨rfl, rfl⟩ := hxy
  split at h
  case h_2 => simp at h
  rename_i κs hκs
  injection h with h; subst h
  exact ⟨ok_entryQ ho hd hi hk hp (isZS_spec h0) hm hz, r_app (r_app (evr_self _ _) (evr_self _ _)) (r_one hl), fun κ' hκ' => by simp at hκ'; subst hκ'; exact freshKey_spec hκs⟩

theorem actEntryStore_ok {t : TypeId} {m z u : Operand} (ho : o.op = .entryStore t m z u) (h : actEntryStore σ o m z u = some x) : Fits C σ o x := by
  unfold actEntryStore at h
  split at h
  case h_1 => simp at h
  rename_i hd
  split at h
  case h_2 => simp at h
  rename_i κ hm
  split at h
  case h_2 => simp at h
  rename_i κz hz
  split at h
  case h_2 => simp at h
  rename_i κ2 hu
  split at h
  case h_2 => simp at h
  rename_i e eb Q x' y' κr κs hl
  split at h
  case isFalse => simp at h
  rename_i e1
  subst e1
  injection h with h; subst h
  exact fits_pure (ok_entryStoreQ ho hd hm hz hu) (r_app (r_app (r_app (evr_self _ _) (evr_self _ _)) (evr_self _ _)) (r_one hl))

theorem actMapUpdate_ok {t : TypeId} {m z u : Operand} (ho : o.op = .mapUpdate t m z u) (h : actMapUpdate C.P σ o t m z u = some x) : Fits C σ o x := by
  unfold actMapUpdate at h
  split at h
  case h_1 => simp at h
  rename_i hd
  split at h
  case h_2 => simp at h
  rename_i v hv
  obtain ⟨i, k, hi, hk, hp⟩ := mapOf_spec hv
  split at h
  case h_2 => simp at h
  rename_i κ hm
  split at h
  case h_2 => simp at h
  rename_i p hz
  have hz := keyC_spec hz
  split at h
  · rename_i S ks hl
    split at h
    case h_2 => simp at h
    rename_i yu hu
    split at h
    case h_2 => simp at h
    rename_i n hn
    injection h with h; subst h
    exact fits_pure (ok_updS ho hd hi hk hp hm hz hu hn) (r_app (r_app (r_app (evr_self _ _) (evr_self _ _)) (evr_self _ _)) (r_one hl))
  · rename_i e eb Q x' y' κr hl
    split at h
    case isFalse => simp at h
    rename_i hxy
    obtain ⟨rfl, rfl⟩ := hxy
    split at h
    case h_2 => simp at h
    rename_i κ2 hu
    injection h with h; subst h
    exact fits_pure (ok_updQ ho hd hi hk hp hm hz hu) (r_app (r_app (r_app (evr_self _ _) (evr_self _ _)) (evr_self _ _)) (r_one hl))
  · simp at h

theorem actDelete_ok {t u : TypeId} {m z : Operand} (hd : dstOK C o.dst) (ho : o.op = .call { callee := .builtin .delete, args := #[m, z], argTypes := #[t, u] }) (h : actDelete C.P σ o t m z = some x) : Fits C σ o x := by
  unfold actDelete at h
  split at h
  case h_2 => simp at h
  rename_i v hv
  obtain ⟨i, k, hi, hk, hp⟩ := mapOf_spec hv
  split at h
  case h_2 => simp at h
  rename_i κ hm
  split at h
  case h_2 => simp at h
  rename_i p hz
  have hz := keyC_spec hz
  split at h
  case h_2 => simp at h
  rename_i e eb Q hl
  injection h with h; subst h
  exact fits_pure (ok_delQ ho hd hi hk hp hm hz) (r_app (r_app (evr_self _ _) (evr_self _ _)) (r_one hl))

theorem actClear_ok {t : TypeId} {m : Operand} (hd : dstOK C o.dst) (ho : o.op = .call { callee := .builtin .clear, args := #[m], argTypes := #[t] }) (h : actClear C.P σ o t m = some x) : Fits C σ o x := by
  unfold actClear at h
  split at h
  case h_2 => simp at h
  rename_i v hv
  obtain ⟨i, k, hi, hk, hp⟩ := mapOf_spec hv
  split at h
  case h_2 => simp at h
  rename_i κ hm
  split at h
  case h_2 => simp at h
  rename_i S ks hl
  injection h with h; subst h
  exact fits_pure (ok_clrS ho hd hi hk hm) (r_app (evr_self _ _) (r_one hl))

theorem actLen2_ok {t : TypeId} {u : Operand} (hd : dstOK C o.dst) (ho : o.op = .call { callee := .builtin .len, args := #[u], argTypes := #[t] }) (h : actLen2 C.P σ o t u = some x) : Fits C σ o x := by
  unfold actLen2 at h
  split at h
  case h_1 => simp at h
  rename_i i hi
  split at h
  case h_2 => simp at h
  rename_i e hk
  split at h
  · rename_i n hx
    injection h with h; subst h
    exact fits_pure (ok_len_slen ho hd hi hk hx) (evr_self _ _)
  · rename_i κ hx
    split at h
    case h_2 => simp at h
    rename_i e' eb ms hh ks hl
    injection h with h; subst h
    exact fits_pure (ok_len_nest ho hd hi hk hx) (r_app (evr_self _ _) (r_one hl))
  · simp at h

theorem actIndex2_ok {t : TypeId} {u z : Operand} (hd : dstOK C o.dst) (ho : o.op = .indexAddr t u z) (h : actIndex2 C.P σ o t u z = some x) : Fits C σ o x := by
  unfold actIndex2 at h
  split at h
  case h_1 => simp at h
  rename_i i hi
  split at h
  case h_2 => simp at h
  rename_i e hk
  split at h
  case h_1 => simp at h
  rename_i j hj
  split at h
  case isFalse => simp at h
  rename_i hj1
  split at h
  case h_1 => simp at h
  rename_i yz hz
  split at h
  case h_2 => simp at h
  rename_i k ix hvz
  split at h
  case isFalse => simp at h
  rename_i h0
  split at h
  case h_2 => simp at h
  rename_i κ hx
  split at h
  case h_2 => simp at h
  rename_i e' eb ms hh ks hl
  split at h
  case isFalse => simp at h
  rename_i hlt
  injection h with h; subst h
  exact fits_pure (ok_idx_nest ho hd hi hk hj hj1 hx hz hvz h0 hlt) (r_app (r_app (evr_self _ _) (evr_self _ _)) (r_one hl))

theorem actLoad2_ok {t : TypeId} {u : Operand} (hd : dstOK C o.dst) (ho : o.op = .load t u) (h : actLoad2 C.P σ o t u = some x) : Fits C σ o x := by
  unfold actLoad2 at h
  split at h
  case h_1 => simp at h
  rename_i i hi
  split at h
  case isFalse => simp at h
  rename_i h12
  split at h
  case h_2 => simp at h
  rename_i κ ix hx
  split at h
  case h_2 => simp at h
  rename_i e eb ms ix' κm hl
  split at h
  case isFalse => simp at h
  rename_i he
  subst he
  injection h with h; subst h
  exact fits_pure (ok_load_nest ho hd hi h12.1 h12.2 hx) (r_app (evr_self _ _) (r_one hl))

theorem actOne_ok {t : TypeId} {n : Nat} {ps : Array (Nat × Operand)} (hd : dstOK C o.dst) (ho : o.op = .buildSlice t n ps) (h : actOne C.P σ o t n ps = some x) : Fits C σ o x := by
  unfold actOne at h
  split at h
  case h_1 => simp at h
  rename_i i hi
  split at h
  case h_2 => simp at h
  rename_i e hk
  split at h
  case h_1 => simp at h
  rename_i j hj
  split at h
  case isFalse => simp at h
  rename_i hj1
  split at h
  case h_2 => simp at h
  split at h
  case h_2 => simp at h
  rename_i u hps
  split at h
  case h_2 => simp at h
  rename_i κc hx
  split at h
  case h_2 => simp at h
  rename_i κ hκ
  split at h
  · simp at h
  rename_i hne
  injection h with h; subst h
  have hps' : ps = #[(0, u)] := by rw [← Array.toArray_toList (xs := ps), hps]
  subst hps'
  exact ⟨ok_one ho hd hi hk hj hj1 hx hne, evr_self _ _, fun κ' hκ' => by simp at hκ'; subst hκ'; exact freshKey_spec hκ⟩

theorem actApp2_ok {u v : Operand} {t t' : TypeId} (hd : dstOK C o.dst) (ho : o.op = .call { callee := .builtin .append, args := #[u, v], argTypes := #[t, t'] }) (h : actApp2 C.P σ o u v t t' = some x) : Fits C σ o x := by
  unfold actApp2 at h
  split at h
  case h_1 => simp at h
  rename_i i hi
  split at h
  case h_2 => simp at h
  rename_i e hk
  split at h
  case h_1 => simp at h
  rename_i iu hiu
  split at h
  case h_2 => simp at h
  rename_i e0 hku
  split at h
  case h_1 => simp at h
  rename_i j hj
  split at h
  case isFalse => simp at h
  rename_i hj1
  split at h
  case h_2 => simp at h
  rename_i κr hx
  split at h
  case h_2 => simp at h
  rename_i e1 eb ms hh ks hl1
  split at h
  case h_2 => simp at h
  rename_i κ2 hz
  split at h
  case h_2 => simp at h
  rename_i e2 κc hl2
  split at h
  case h_2 => simp at h
  rename_i eb' rows hl3
  split at h
  case h_2 => simp at h
  rename_i bs hbs
  split at h
  case h_2 => simp at h
  rename_i κ3 hκ3
  split at h
  case isFalse => simp at h
  rename_i hee
  obtain ⟨rfl, rfl, rfl⟩ := hee
  split at h
  case isFalse => simp at h
  rename_i hlen
  split at h
  case isFalse => simp at h
  rename_i hhb
  split at h
  case isFalse => simp at h
  rename_i hks
  injection h with h; subst h
  have := bytesOf_spec hbs
  subst this
  refine ⟨ok_app_nest ho hd hi hk hiu hku hj hj1 hx hz (by simp only [maxLen]; omega) hlen.2 ?_ (notIn_spec hks), r_app (r_app (evr_self _ _) (evr_self _ _)) (Reads.cons.2 ⟨hl1, Reads.cons.2 ⟨hl2, r_one hl3⟩⟩), fun κ' hκ' => by simp at hκ'; subst hκ'; exact freshKey_spec hκ3⟩
  intro i' hi'
  subst hi'
  simpa [holeB] using hhb

theorem actCall2_ok {c : Call} (hd : dstOK C o.dst) (ho : o.op = .call c) (h : actCall2 C.P σ o c = some x) : Fits C σ o x := by
  unfold actCall2 at h
  split at h
  · rename_i hc
    split at h
    · rename_i u hu
      split at h
      · rename_i t ht; rw [call_eta hc hu ht] at ho; exact actLen2_ok hd ho h
      · simp at h
    · simp at h
  · rename_i hc
    split at h
    · rename_i u v hu
      split at h
      · rename_i t t' ht; rw [call_eta hc hu ht] at ho; exact actApp2_ok hd ho h
      · simp at h
    · simp at h
  · rename_i hc
    split at h
    · rename_i u v hu
      split at h
      · rename_i t t' ht; rw [call_eta hc hu ht] at ho; exact actDelete_ok hd ho h
      · simp at h
    · simp at h
  · rename_i hc
    split at h
    · rename_i u hu
      split at h
      · rename_i t ht; rw [call_eta hc hu ht] at ho; exact actClear_ok hd ho h
      · simp at h
    · simp at h
  · simp at h

theorem actMark_ok {t d : TypeId} {u : Operand} (hd : dstOK C o.dst) (ho : o.op = .convert t d u) (h : actMark C.P σ o t d u = some x) : Fits C σ o x := by
  unfold actMark at h
  split at h
  case isFalse => simp at h
  rename_i e1
  subst e1
  split at h
  case h_2 => simp at h
  rename_i i hi
  split at h
  case h_2 => simp at h
  rename_i e hk
  split at h
  case h_2 => simp at h
  rename_i j hj
  split at h
  case h_2 => simp at h
  rename_i hk2
  split at h
  case h_2 => simp at h
  rename_i κ hx
  split at h
  case h_2 => simp at h
  rename_i et r rows hl
  injection h with h; subst h
  exact fits_pure (ok_mark ho hd hi hk hj hk2 hx) (r_app (evr_self _ _) (r_one hl))

theorem actN_ok (h : actN C.P C.N σ o = some x) : Fits C σ o x := by
  unfold actN at h
  split at h
  · rename_i hd
    have hd := dstB_ok hd
    split at h
    · rename_i ho; exact actMakeMap_ok hd ho h
    · rename_i ho; exact actLookup_ok hd ho h
    · rename_i ho; exact actMapEntry_ok hd ho h
    · rename_i ho; exact actEntryStore_ok ho h
    · rename_i ho; exact actMapUpdate_ok ho h
    · rename_i ho; exact actIndex2_ok hd ho h
    · rename_i ho; exact actLoad2_ok hd ho h
    · rename_i ho; exact actOne_ok hd ho h
    · rename_i ho; exact actCall2_ok hd ho h
    · rename_i ho; exact actMark_ok hd ho h
    · simp at h
  · simp at h

theorem binfo_spec {P : Program} {t : TypeId} {bi : BInfo} (h : binfo P t = some bi) : ∃ i, tinfo P t = some i ∧ i.agg = true ∧ zeroOne P t = true ∧ bi.size = i.size ∧
    ((∃ n e j, i.k = .array n e ∧ tinfo P e = some j ∧ bi.offs = [] ∧ bi.elem = some (j.size, n)) ∨ ∃ fs, i.k = .struct fs ∧ bi.offs = fs.map (·.1) ∧ bi.elem = none ∧ (∀ f, f ∈ fs → ∃ j, tinfo P f.2 = some j ∧ j.size ≠ 0) ∧ (bi.two = true → i.places[0]? = some (0, 1) ∧ i.places[1]? = some (1, 1) ∧ 2 ≤ i.size)) := by
  unfold binfo at h
  split at h
  · simp at h
  · rename_i i hi
    split at h
    case isFalse => simp at h
    rename_i ha
    split at h
    case isFalse => simp at h
    rename_i hz
    split at h
    · rename_i fs hk
      split at h
      case isFalse => simp at h
      rename_i hall
      injection h with h; subst h
      refine ⟨i, hi, ha, hz, rfl, .inr ⟨fs, hk, rfl, rfl, fun f hf => ?_, fun h2 => ?_⟩⟩
      · have := List.all_eq_true.1 hall f hf
        split at this
        · rename_i j hj; exact ⟨j, hj, by simpa using this⟩
        · simp at this
      · simp only [Bool.and_eq_true, beq_iff_eq] at h2
        exact ⟨h2.1.1, h2.1.2, Nat.le_of_ble_eq_true h2.2⟩
    · rename_i n e hk
      split at h
      · rename_i j hj
        injection h with h; subst h
        exact ⟨i, hi, ha, hz, rfl, .inl ⟨n, e, j, hk, hj, rfl, rfl⟩⟩
      · simp at h
    · simp at h

theorem actFieldM_ok {t : TypeId} {u : Operand} {f : Nat} (hd : dstOK C o.dst) (ho : o.op = .fieldAddr t u f) (h : actFieldM C.P σ o t u f = some x) : Fits C σ o x := by
  unfold actFieldM at h
  split at h
  case h_2 => simp at h
  rename_i bi hb
  split at h
  case h_2 => simp at h
  rename_i off hoff
  split at h
  case h_2 => simp at h
  rename_i κ sz i k hu
  injection h with h; subst h
  obtain ⟨ti, ht, _, _, _, h2⟩ := binfo_spec hb
  rcases h2 with ⟨_, _, _, _, _, e1, _⟩ | ⟨fs, hk, e1, _, hall, _⟩
  · rw [e1] at hoff; simp at hoff
  · rw [e1, List.getElem?_map, Option.map_eq_some_iff] at hoff
    obtain ⟨p, hp, rfl⟩ := hoff
    obtain ⟨j, hj, h0⟩ := hall p (List.mem_of_getElem? hp)
    exact fits_pure (ok_fieldAddr (off := p.1) (ft := p.2) ho hd ht hk hp hj h0 hu (.inr (.inl ⟨κ, sz, i, k, rfl, rfl⟩))) (evr_self _ _)

theorem actIndexM_ok {t : TypeId} {u z : Operand} (hd : dstOK C o.dst) (ho : o.op = .indexAddr t u z) (h : actIndexM C.P σ o t u z = some x) : Fits C σ o x := by
  unfold actIndexM at h
  split at h
  case h_2 => simp at h
  rename_i bi hb
  split at h
  case h_2 => simp at h
  rename_i es n hel
  split at h
  case h_2 => simp at h
  rename_i yz hz
  split at h
  case h_2 => simp at h
  rename_i ik ix hvz
  split at h
  case isFalse => simp at h
  rename_i h0
  split at h
  case isFalse => simp at h
  rename_i hlt
  split at h
  case h_2 => simp at h
  rename_i κ sz i k hu
  injection h with h; subst h
  obtain ⟨ti, ht, _, _, _, h2⟩ := binfo_spec hb
  rcases h2 with ⟨n', e, j, hk, hj, _, e1⟩ | ⟨fs, hk, _, e1, _⟩
  · rw [hel] at e1
    simp at e1
    obtain ⟨rfl, rfl⟩ := e1
    exact fits_pure (ok_index_mem ho hd ht hk hj hu hz hvz h0 hlt) (r_app (evr_self _ _) (evr_self _ _))
  · rw [hel] at e1; simp at e1

theorem actLoadM_ok {t : TypeId} {u : Operand} (hd : dstOK C o.dst) (ho : o.op = .load t u) (h : actLoadM C.P σ o t u = some x) : Fits C σ o x := by
  unfold actLoadM at h
  split at h
  case h_2 => simp at h
  rename_i κ sz i k hu
  split at h
  case h_2 => simp at h
  rename_i e n f hh ks hl
  split at h
  · split at h
    case h_2 => simp at h
    rename_i bi hb
    split at h
    case isFalse => simp at h
    rename_i h1
    split at h
    case isFalse => simp at h
    rename_i h2
    injection h with h; subst h
    obtain ⟨ti, ht, ha, _, hs, _⟩ := binfo_spec hb
    rw [hs] at h1 h2 ⊢
    exact fits_pure (ok_load_memN ho hd ht ha hu h1 h2) (r_app (evr_self _ _) (r_one hl))
  · split at h
    case h_2 => simp at h
    rename_i ti ht
    split at h
    case isFalse => simp at h
    rename_i h1
    split at h
    · rename_i h2
      split at h
      case h_2 => simp at h
      rename_i κm
      injection h with h; subst h
      subst h2
      exact fits_pure (ok_load_memH ho hd ht h1.1 h1.2 hu) (r_app (evr_self _ _) (r_one hl))
    · rename_i h2
      split at h
      case isFalse => simp at h
      rename_i h3
      injection h with h; subst h
      exact fits_pure (ok_load_mem ho hd ht h1.1 h1.2 hu h3 h2) (r_app (evr_self _ _) (r_one hl))

theorem sizeM_spec {P : Program} {t : TypeId} {m : Nat} (h : sizeM P t = some m) : ∃ i, tinfo P t = some i ∧ i.size = m := by
  unfold sizeM at h
  split at h
  · split at h
    case h_2 => simp at h
    rename_i bi hb
    injection h with h; subst h
    obtain ⟨ti, ht, _, _, hs, _⟩ := binfo_spec hb
    exact ⟨ti, ht, hs.symm⟩
  · split at h
    case h_2 => simp at h
    rename_i ti ht
    injection h with h
    exact ⟨ti, ht, h⟩

theorem actStoreM_ok {t : TypeId} {u z : Operand} (ho : o.op = .store t u z) (h : actStoreM C.P σ o t u z = some x) : Fits C σ o x := by
  unfold actStoreM at h
  split at h
  · simp at h
  rename_i hd
  split at h
  case h_2 => simp at h
  rename_i κ sz i k hu
  split at h
  case h_2 => simp at h
  rename_i e n f hh ks hl
  split at h
  case h_2 => simp at h
  rename_i m hm
  obtain ⟨ti, ht, hs⟩ := sizeM_spec hm
  split at h
  · rename_i κ2 hz
    split at h
    case isFalse => simp at h
    rename_i h1
    split at h
    case isFalse => simp at h
    rename_i h2
    split at h
    case isFalse => simp at h
    rename_i h3
    injection h with h; subst h
    subst h2
    exact fits_pure (ok_store_memH ho hd ht (by omega) hu hz h3) (r_app (r_app (evr_self _ _) (evr_self _ _)) (r_one hl))
  · rename_i y hz
    split at h
    case isFalse => simp at h
    rename_i h1
    split at h
    case isFalse => simp at h
    rename_i h2
    split at h
    case isFalse => simp at h
    rename_i h3
    split at h
    case isFalse => simp at h
    rename_i h4
    injection h with h; subst h
    subst hs
    exact fits_pure (ok_store_mem ho hd ht hu hz h1 h2 h3 h4) (r_app (r_app (evr_self _ _) (evr_self _ _)) (r_one hl))
  · simp at h

theorem actAllocM_ok {t : TypeId} (hd : dstOK C o.dst) (ho : o.op = .alloc t) (h : actAllocM C.P σ o t = some x) : Fits C σ o x := by
  unfold actAllocM at h
  split at h
  case h_2 => simp at h
  rename_i bi hb
  split at h
  case h_2 => simp at h
  rename_i κ hκ
  injection h with h; subst h
  obtain ⟨ti, ht, _, hz, hs, _⟩ := binfo_spec hb
  rw [hs]
  exact ⟨ok_alloc_mem ho hd ht hz, Reads.nil, fun κ' hκ' => by simp at hκ'; subst hκ'; exact freshKey_spec hκ⟩

theorem actBoxM_ok {t : TypeId} {u : Operand} (hd : dstOK C o.dst) (ho : o.op = .box t u) (h : actBoxM C.P σ o t u = some x) : Fits C σ o x := by
  unfold actBoxM at h
  split at h
  case h_2 => simp at h
  rename_i cs hu
  split at h
  case isFalse => simp at h
  rename_i hl
  split at h
  case h_2 => simp at h
  rename_i κ hκ
  split at h
  · rename_i i sz et hh
    split at h
    case h_2 => simp at h
    rename_i κl hκl
    split at h
    · simp at h
    rename_i hne
    split at h
    case isFalse => simp at h
    rename_i hi
    split at h
    case isFalse => simp at h
    rename_i hz
    injection h with h; subst h
    have hz := isZS_spec hz
    injection hz with hz
    refine ⟨ok_box_hole ho hd hu hl hi hz hne, evr_self _ _, fun κ' hκ' => ?_⟩
    simp at hκ'
    rcases hκ' with rfl | rfl
    · exact freshKey_spec hκ
    · exact freshKey_spec hκl
  · injection h with h; subst h
    exact ⟨ok_box_mem ho hd hu hl, evr_self _ _, fun κ' hκ' => by simp at hκ'; subst hκ'; exact freshKey_spec hκ⟩

theorem actBuildM_ok {t : TypeId} {ps : Array (Nat × Operand)} (hd : dstOK C o.dst) (ho : o.op = .build t ps) (h : actBuildM C.P σ o t ps = some x) : Fits C σ o x := by
  unfold actBuildM at h
  split at h
  case h_2 => simp at h
  rename_i bi hb
  obtain ⟨ti, ht, _, hz, hs, h2⟩ := binfo_spec hb
  split at h
  · rename_i el hel
    split at h
    case h_2 => simp at h
    rename_i hps
    injection h with h; subst h
    have hps : ps = #[] := by apply Array.toList_inj.1; simpa using hps
    subst hps
    rw [hs]
    rcases h2 with ⟨n', e, j, hk, hj, _, e1⟩ | ⟨fs, hk, _, e1, _⟩
    · exact fits_pure (ok_build_zero ho hd ht hk hj hz) Reads.nil
    · rw [hel] at e1; simp at e1
  · rename_i hel
    split at h
    case isFalse => simp at h
    rename_i htwo
    split at h
    case h_2 => simp at h
    rename_i y z hps
    split at h
    case h_2 => simp at h
    rename_i vx hx
    split at h
    case h_2 => simp at h
    rename_i vz hz2
    injection h with h; subst h
    have hps : ps = #[(0, y), (1, z)] := by apply Array.toList_inj.1; simpa using hps
    subst hps
    rw [hs]
    rcases h2 with ⟨n', e, j, hk, hj, _, e1⟩ | ⟨fs, hk, _, e1, _, h3⟩
    · rw [hel] at e1; simp at e1
    · obtain ⟨p0, p1, p2⟩ := h3 htwo
      exact fits_pure (ok_build_two ho hd ht hk hz p0 p1 p2 hx hz2) (r_app (evr_self _ _) (evr_self _ _))

theorem actSliceM_ok {t : TypeId} {y : Operand} {lo hi : Option Operand} (hd : dstOK C o.dst) (ho : o.op = .slice t y lo hi none) (h : actSliceM C.P σ o t y lo hi = some x) : Fits C σ o x := by
  unfold actSliceM at h
  split at h
  · simp at h
  rename_i i hi'
  split at h
  case h_2 => simp at h
  rename_i e hk
  split at h
  · simp at h
  rename_i j hj
  split at h
  case h_2 => simp at h
  rename_i κ hy
  split at h
  case h_2 => simp at h
  rename_i sz e' rows hv
  split at h
  case isFalse => simp at h
  rename_i he
  subst he
  split at h
  · simp at h
  rename_i l rl hl
  split at h
  · simp at h
  rename_i h2 rh hh
  split at h
  case isFalse => simp at h
  rename_i h3
  split at h
  case isFalse => simp at h
  rename_i h4
  split at h
  case isFalse => simp at h
  rename_i h5
  injection h with h; subst h
  obtain ⟨r1, k1, b1⟩ := boundL_spec hl
  obtain ⟨r2, k2, b2⟩ := boundL_spec hh
  exact fits_pure (ok_part (kl := k1) (kh := k2) ho hd hi' hk hj hy b1 b2 h3 h4 h5) (r_app (r_app (r_app (evr_self _ _) r1) r2) (r_one hv))

theorem actRange_ok {t : TypeId} {u : Operand} (hd : dstOK C o.dst) (ho : o.op = .range t u) (h : actRange C.P σ o t u = some x) : Fits C σ o x := by
  unfold actRange at h
  split at h
  case isFalse => simp at h
  rename_i hm
  split at h
  case h_2 => simp at h
  rename_i κ hu
  split at h
  case h_2 => simp at h
  rename_i e eb Q B clk hv
  split at h
  case h_2 => simp at h
  rename_i κi hκ
  split at h
  · simp at h
  rename_i hne
  injection h with h; subst h
  unfold isMap at hm
  split at hm
  case h_2 => simp at hm
  rename_i i hi
  split at hm
  case h_2 => simp at hm
  rename_i k v hk
  exact ⟨ok_range ho hd hi hk hu hne, r_app (evr_self _ _) (r_one hv), fun κ' hκ' => by simp at hκ'; subst hκ'; exact freshKey_spec hκ⟩

theorem actEntry_ok {u : Operand} (hd : dstOK C o.dst) (ho : o.op = .entry u) (h : actEntry σ o u = some x) : Fits C σ o x := by
  unfold actEntry at h
  split at h
  case h_2 => simp at h
  rename_i κi hu
  split at h
  case h_2 => simp at h
  rename_i clk seen p κ hv
  split at h
  case h_2 => simp at h
  rename_i e eb Q B clk' hq
  split at h
  case h_2 => simp at h
  rename_i n hn
  split at h
  case isFalse => simp at h
  rename_i hB
  split at h
  case isFalse => simp at h
  rename_i hc
  subst hc
  injection h with h; subst h
  exact fits_pure (ok_entry ho hd hu hn hB) (r_app (evr_self _ _) (Reads.cons.2 ⟨hv, r_one hq⟩))

theorem actDelB_ok {t u : TypeId} {m z : Operand} (hd : dstOK C o.dst) (ho : o.op = .call { callee := .builtin .delete, args := #[m, z], argTypes := #[t, u] }) (h : actDelB C.P σ o t m z = some x) : Fits C σ o x := by
  unfold actDelB at h
  split at h
  case h_2 => simp at h
  rename_i v hv
  split at h
  case h_2 => simp at h
  rename_i κ hm
  split at h
  case h_2 => simp at h
  rename_i p hp
  split at h
  case h_2 => simp at h
  rename_i e eb Q B clk hq
  injection h with h; subst h
  obtain ⟨i, k, hi, hk, hpt⟩ := mapOf_spec hv
  exact fits_pure (ok_delB ho hd hi hk hpt hm (keyC_spec hp)) (r_app (r_app (evr_self _ _) (evr_self _ _)) (r_one hq))

theorem actX_ok (h : actX C.P C.N σ o = some x) : Fits C σ o x := by
  unfold actX at h
  split at h
  case isFalse => simp at h
  rename_i hd
  have hd := dstB_ok hd
  split at h
  · rename_i ho; exact actFieldM_ok hd ho h
  · rename_i ho; exact actIndexM_ok hd ho h
  · rename_i ho; exact actLoadM_ok hd ho h
  · rename_i ho; exact actStoreM_ok ho h
  · rename_i ho; exact actAllocM_ok hd ho h
  · rename_i ho; exact actBoxM_ok hd ho h
  · rename_i ho; exact actBuildM_ok hd ho h
  · rename_i ho; exact actSliceM_ok hd ho h
  · rename_i ho; exact actRange_ok hd ho h
  · rename_i ho; exact actEntry_ok hd ho h
  · rename_i c ho
    split at h
    · rename_i hc
      split at h
      · rename_i u v hu
        split at h
        · rename_i t t' ht; rw [call_eta hc hu ht] at ho; exact actDelB_ok hd ho h
        · simp at h
      · simp at h
    · simp at h
  · simp at h

theorem act_ok (h : act C.P C.N σ o = some x) : Fits C σ o x := by
  unfold act at h
  split at h
  · exact actX_ok h
  · split at h
    · rename_i y hy; injection h with h; subst h; exact act0_ok hy
    · split at h
      · rename_i y hy; injection h with h; subst h; exact actN_ok hy
      · exact actX_ok h

end Go.AM
