import Derived.Test.YtidnlnnobegniaaA17
set_option linter.unusedVariables false
set_option linter.unusedSimpArgs false
namespace Go.AM
open Go.RowKit

/-! ### 23. Results that the caller may write: a row of its own -/
theorem calls_gen {P : Program} {f : FuncId} {fn : Func} {c : Code} {args : List PV} (hf : P.funcs[f]? = some fn) (hb : fn.body = some c) (hN : args.length ≤ fn.ntmps) {G : Heap} {w : World} {vals : List Value} (hle : GLe G w) (hvals : All2 (fun v (x : PV) => V1Rep G noPlaces v x.up) vals args)
    {Post : Exit → L → Prop} {Ψ : Value → World → Prop} (h : AWP (pureCtx P fn.ntmps w G) c Post (entry 0 args))
    (hpost : ∀ e σ' a' w', Post e σ' → Rel (pureCtx P fn.ntmps w G) (look σ') a' w' → (e = .normal ∨ e = .ret) ∧ ∃ v, (results fn a'.tmps).run P w' = .ok v w' ∧ Ψ v w') :
    Calls P f vals.toArray w fun e w' => ∃ v, e = .returned v ∧ Ψ v w' := by
  refine calls_of_wp hf hb ?_
  have hvl := hvals.length
  have hrel : Rel (pureCtx P fn.ntmps w G) (look (entry 0 args)) { tmps := vals.toArray ++ Array.replicate (fn.ntmps - vals.toArray.size) undef, defers := [] } w := by
    refine ⟨G, noPlaces, rfl, rfl, rfl, Nat.le_refl _, fun _ _ _ => rfl, hle, fun _ _ h => h, fun _ _ h => .inl h, fun b c e f h _ => ⟨c, h, rfl, fun _ _ => rfl⟩, fun _ _ => rfl, rfl, ?_, ?_, ?_, ?_, ?_, ?_⟩
    · simp [pureCtx]; omega
    · intro l c κ b hl hk
      obtain ⟨i, x, rfl, _⟩ := look_entry _ _ _ _ hl
      simp [Loc.key] at hk
    · intro l c l' c' κ κ' b hl _ hk
      obtain ⟨i, x, rfl, _⟩ := look_entry _ _ _ _ hl
      simp [Loc.key] at hk
    · intro n x hx
      obtain ⟨i, y, h1, h2, h3⟩ := look_entry _ _ _ _ hx
      simp at h1
      subst h1
      obtain ⟨v, h4, h5⟩ := hvals.get h2
      refine ⟨v, _, h3, ?_, h5⟩
      have hi : n < vals.length := (List.getElem?_eq_some_iff.1 h4).1
      rw [Array.getElem?_append_left (by simpa using hi)]
      simpa using h4
    · intro κ k x hx
      obtain ⟨i, y, h1, _⟩ := look_entry _ _ _ _ hx
      simp at h1
    · intro κ x hx
      obtain ⟨i, y, h1, _⟩ := look_entry _ _ _ _ hx
      simp at h1
  refine wp_mono (h _ w hrel) ?_
  rintro e a' w' ⟨σ', hp, hr'⟩
  obtain ⟨he, v, h1, h2⟩ := hpost e σ' a' w' hp hr'
  obtain ⟨_, _, hr'⟩ := hr'
  rcases he with rfl | rfl
  · exact ⟨hr'.defers, v, h1, v, rfl, h2⟩
  · exact ⟨hr'.defers, v, h1, v, rfl, h2⟩

def At.to (κ : Nat) : At → At
  | .ptr _ off => .ptr κ off
  | .row _ => .row κ
  | .vptr _ sz i k => .vptr κ sz i k
  | .obj _ => .obj κ
  | .part _ sz lo n => .part κ sz lo n
  | x => x
def V1.to (κ : Nat) : V1 → V1
  | .one x => .one (x.to κ)
  | .agg cs => .agg (cs.map (At.to κ))
def SV.to (κ : Nat) : SV → SV
  | .v x => .v (x.to κ)
  | .tup xs => .tup (xs.map (V1.to κ))

theorem AtRep.to {G : Heap} {ρ ρ' : Places} {κ κ' : Nat} {v : Value} {x : At} (hp : ρ' κ' = ρ κ) (h : AtRep G ρ v (x.to κ)) : AtRep G ρ' v (x.to κ') := by
  cases x with
  | t x => exact h
  | tptr cells => exact h
  | slen n => exact h
  | _ => simpa [At.to, AtRep, hp] using h
theorem All2.map_map {α β γ δ : Type} {R : α → γ → Prop} {S : α → δ → Prop} {f : β → γ} {g : β → δ} {as : List α} : ∀ {bs : List β}, All2 R as (bs.map f) → (∀ a b, R a (f b) → S a (g b)) → All2 S as (bs.map g)
  | [], h, _ => by cases h; exact .nil
  | b :: bs, h, hf => by
    cases h with
    | cons h1 t => exact .cons (hf _ _ h1) (All2.map_map t hf)
theorem V1Rep.to {G : Heap} {ρ ρ' : Places} {κ κ' : Nat} {v : Value} {x : V1} (hp : ρ' κ' = ρ κ) (h : V1Rep G ρ v (x.to κ)) : V1Rep G ρ' v (x.to κ') := by
  cases x with
  | one x => exact AtRep.to hp h
  | agg cs =>
    obtain ⟨vs, e, h⟩ := h
    exact ⟨vs, e, h.map_map fun _ _ h => AtRep.to hp h⟩
theorem SVRep.to {G : Heap} {ρ ρ' : Places} {κ κ' : Nat} {v : Value} {x : SV} (hp : ρ' κ' = ρ κ) (h : SVRep G ρ v (x.to κ)) : SVRep G ρ' v (x.to κ') := by
  cases x with
  | v x => exact V1Rep.to hp h
  | tup xs =>
    obtain ⟨vs, e, h⟩ := h
    exact ⟨vs, e, h.map_map fun _ _ h => V1Rep.to hp h⟩

/-- Trees in; out comes a value that holds one row of the caller's own. -/
def Own (P : Program) (f : FuncId) (args : List PV) (res : SV) (sz : Nat) (e : TypeId) (rows : List (List T)) : Prop :=
  ∀ (G : Heap) (w : World) (vals : List Value), GLe G w → All2 (fun v (x : PV) => V1Rep G noPlaces v x.up) vals args →
    Calls P f vals.toArray w fun en w' => ∃ v, en = .returned v ∧ ∃ G' ρ, SVRep G' ρ v (res.to 0) ∧ GLe G' w' ∧ GExt G G' ∧ (∀ b o, G' b = some o → G b = some o ∨ w.heap.size ≤ b) ∧ Grew w w' ∧
      VecRep G' w' (ρ 0) sz e rows ∧ ∀ b, blk (ρ 0) = some b → G' b = none ∧ w.heap.size ≤ b

def LeavesO (P : Program) (rs : List ResultVar) (res : SV) (sz : Nat) (et : TypeId) (rows : List (List T)) (e : Exit) (σ : L) : Prop :=
  (e = .normal ∨ e = .ret) ∧ ∃ κ ys, look σ (.vec κ) = some (.r sz et rows) ∧ resAll P σ rs = some ys ∧ packL ys = res.to κ

theorem leavesO_ok {P : Program} {rs : List ResultVar} {res : SV} {sz : Nat} {et : TypeId} {rows : List (List T)} {e : Exit} {σ : L} {ys : List V1} (κ : Nat) (he : e = .normal ∨ e = .ret) (hv : look σ (.vec κ) = some (.r sz et rows)) (h : resAll P σ rs = some ys) (hs : packL ys = res.to κ) : LeavesO P rs res sz et rows e σ := ⟨he, κ, ys, hv, h, hs⟩

theorem own_of_calls {P : Program} {f : FuncId} {fn : Func} {c : Code} {args : List PV} {res : SV} {sz : Nat} {et : TypeId} {rows : List (List T)} (hf : P.funcs[f]? = some fn) (hb : fn.body = some c) (hN : args.length ≤ fn.ntmps) {G : Heap} {w : World} {vals : List Value} (hle : GLe G w) (hvals : All2 (fun v (x : PV) => V1Rep G noPlaces v x.up) vals args)
    (h : AWP (pureCtx P fn.ntmps w G) c (LeavesO P fn.results.toList res sz et rows) (entry 0 args)) :
    Calls P f vals.toArray w fun en w' => ∃ v, en = .returned v ∧ ∃ G' ρ, SVRep G' ρ v (res.to 0) ∧ GLe G' w' ∧ GExt G G' ∧ (∀ b o, G' b = some o → G b = some o ∨ w.heap.size ≤ b) ∧ Grew w w' ∧
      VecRep G' w' (ρ 0) sz et rows ∧ ∀ b, blk (ρ 0) = some b → G' b = none ∧ w.heap.size ≤ b := by
  refine calls_gen hf hb hN hle hvals h ?_
  rintro e σ' a' w' ⟨he, κ, ys, hv, hys, hpk⟩ ⟨G', ρ', hr'⟩
  obtain ⟨v, h1, h2⟩ := run_results hr' hys
  rw [hpk] at h2
  refine ⟨he, v, h1, G', ⟨fun _ => ρ' κ, fun _ _ => False⟩, SVRep.to (ρ := ρ') (κ := κ) rfl h2, hr'.gle, hr'.g0, fun b o hb => ?_, ⟨hr'.os, hr'.tape, hr'.output, hr'.size, fun b hb => hr'.block b hb pure_m⟩, ?_, ?_⟩
  · rcases hr'.gnew b o hb with h | h | h
    · exact .inl h
    · exact .inr h
    · exact absurd h pure_mv
  · obtain ⟨sz', e', rows', g1, g2⟩ := hr'.vecr hv
    injection g1 with g1 g1' g1''
    subst g1; subst g1'; subst g1''
    exact g2
  · intro b hb
    obtain ⟨k1, _, k3⟩ := hr'.live _ _ κ b hv rfl (.inl hb)
    refine ⟨k1, ?_⟩
    rcases k3 with k3 | k3 | k3
    · exact k3.2.1.elim
    · exact absurd k3 pure_mv
    · exact k3

theorem own_of_body {P : Program} {f : FuncId} {fn : Func} {c : Code} {args : List PV} {res : SV} {sz : Nat} {et : TypeId} {rows : List (List T)} (hf : P.funcs[f]? = some fn) (hb : fn.body = some c) (hN : args.length ≤ fn.ntmps)
    (h : ∀ w0 G0, AWP (pureCtx P fn.ntmps w0 G0) c (LeavesO P fn.results.toList res sz et rows) (entry 0 args)) : Own P f args res sz et rows :=
  fun G w vals hle hvals => own_of_calls hf hb hN hle hvals (h w G)

theorem own_of_slice {P : Program} {f : FuncId} {fn : Func} {c : Code} {sz0 sz : Nat} {rows0 : List (List T)} {res : SV} {et : TypeId} {rows : List (List T)} (hf : P.funcs[f]? = some fn) (hb : fn.body = some c) (hN : 1 ≤ fn.ntmps)
    (hnil : rows0 = [] → ∀ w0 G0, AWP (pureCtx P fn.ntmps w0 G0) c (LeavesO P fn.results.toList res sz et rows) (entry 0 [.one (.lit (.slice none 0 0))]))
    (hsome : ∀ w0 G0 ad n cp, VRep G0 (.slice (some ad) n cp) (.sl sz0 rows0) → AWP (pureCtx P fn.ntmps w0 G0) c (LeavesO P fn.results.toList res sz et rows) (entry 0 [.one (.lit (.slice (some ad) n cp))])) : Own P f [.one (.sl sz0 rows0)] res sz et rows := by
  intro G w vals hle hvals
  cases hvals with
  | cons h1 t =>
    cases t
    obtain ⟨h2, h3⟩ := h1
    rename_i v
    have hex : ∃ A n cp, v = .slice A n cp ∧ (A = none → n = 0 ∧ cp = 0 ∧ rows0 = []) := by
      cases h3 with
      | sl A n cp sz rows u hn hc hsz hA hcell hrec =>
        refine ⟨A, n, cp, rfl, fun e => ?_⟩
        have hc0 : cp = 0 := hA.resolve_left (by simp [e])
        have hn0 : n = 0 := by omega
        exact ⟨hn0, hc0, List.eq_nil_of_length_eq_zero (by omega)⟩
    obtain ⟨A, n, cp, rfl, hA⟩ := hex
    cases A with
    | none =>
      obtain ⟨rfl, rfl, hr⟩ := hA rfl
      exact own_of_calls (args := [.one (.lit (.slice none 0 0))]) hf hb hN hle (.cons ⟨rfl, .lit _⟩ .nil) (hnil hr w G)
    | some ad => exact own_of_calls (args := [.one (.lit (.slice (some ad) n cp))]) hf hb hN hle (.cons ⟨rfl, .lit _⟩ .nil) (hsome w G ad n cp h3)

variable {C : Ctx} {Q : Exit → L → Prop} {σ : L}

theorem fits_own {f : FuncId} {o : Oper} {xs : Array Operand} {ts : Array TypeId} {ys : List V1} {rd : List (Loc × Cont)} {args : List PV} {res : SV} {sz : Nat} {et : TypeId} {rows : List (List T)} {κ : Nat} (hc : callB C.P f = true) (ho : o.op = .call { callee := .value (.func f), args := xs, argTypes := ts }) (hd : dstB C.N o.dst = true)
    (ha : argsL (look σ) xs.toList = some (ys, rd)) (hs : All2 SubV ys args) (hk : freshKey σ (dstN o.dst) = some κ) (hp : Own C.P f args res sz et rows) : Fits C σ o ⟨rd, [(.vec κ, some (.r sz et rows))] ++ wrD o.dst (res.to κ), [κ]⟩ := by
  refine ⟨?_, argsL_reads ha, fun κ' hκ' => by simp at hκ'; subst hκ'; exact freshKey_spec hk⟩
  intro s a w K Q ⟨G, ρ, hrel⟩ hh hf hK
  have hargs := argsL_rep (ρ' := noPlaces) hrel ha hh hs
  unfold Oper.wp
  rw [exec_call hc ho]
  simp only [Oper.upon]
  have he : (xs.map a.eval) = (xs.toList.map a.eval).toArray := by apply Array.ext'; simp
  rw [he]
  refine (hp G w _ hrel.gle hargs).mono ?_
  rintro e w' ⟨v, rfl, G', ρv, h1, h2, h3, h4, h5, h6, h7⟩
  refine hK _ _ ?_
  have hm : ¬ Mentions s κ := hf κ (by simp)
  have hrel' := hrel.extend h5 h3 h2 h4 (ρ' := setAt ρ κ (ρv 0)) (fun κ' hκ' => setAt_ne _ _ (by rintro rfl; exact hm hκ')) fun κ' hκ' => setAt_X_ne _ _ (by rintro rfl; exact hm hκ')
  have hknow := hrel'.know (l := .vec κ) (c := .r sz et rows) (κ := κ) rfl
    (by
      intro b hb
      have hb := setAt_owns_same hb
      obtain ⟨k1, k2⟩ := h7 b hb
      exact ⟨k1, h6.blk_lt hb, .inr (.inr (Nat.le_trans hrel.size k2))⟩)
    (by
      intro l' c' κ' b hl hk' hb hb'
      have hb' := setAt_owns_same hb'
      by_cases e1 : κ' = κ
      · exact e1
      · exfalso
        have hb := setAt_owns_ne e1 hb
        have := (hrel.live l' c' κ' b hl hk' hb).2.1
        have := (h7 b hb').2
        omega)
    (by simp) (fun _ => (show VecRep _ _ _ _ _ _ by rw [setAt_same]; exact h6))
  have hv : SVRep G' (setAt ρ κ (ρv 0)) v (res.to κ) := SVRep.to (setAt_same _ _ _) h1
  cases hdst : o.dst with
  | none => exact ⟨G', _, hknow⟩
  | some d => exact ⟨G', _, hknow.put (dstB_ok hd d hdst) hv⟩

theorem runD_own {K : L → List Action → Prop} {ds : List (Option Nat)} {P : Program} {f : FuncId} {o : Oper} {ys : List V1} {rd : List (Loc × Cont)} {args : List PV} {res : SV} {sz : Nat} {et : TypeId} {rows : List (List T)} {κ : Nat} {rest : List Oper} {acts : List Action} (hp : Own P f args res sz et rows) (hc : callB P f = true) (hP : C.P = P)
    (hr : callR C ds σ o = some (f, ys, rd)) (hk : freshKey σ (dstN o.dst) = some κ) (hs : All2 SubV ys args)
    (k : RunD C ds rest (applyL σ ([(.vec κ, some (.r sz et rows))] ++ wrD o.dst (res.to κ))) (acts ++ [⟨rd, [(.vec κ, some (.r sz et rows))] ++ wrD o.dst (res.to κ), [κ]⟩]) K) : RunD C ds (o :: rest) σ acts K := by
  subst hP
  obtain ⟨xs, ts, gd, rd', ho, hd, hg, ha, rfl⟩ := callR_spec hr
  unfold RunD
  exact guardR_sound hg (fits_own hc ho hd ha hs hk hp) k

/-- .. and who doesn't write it has a tree. -/
theorem pure_of_own {P : Program} {f : FuncId} {args : List PV} {res : SV} {sz : Nat} {et : TypeId} {rows : List (List T)} {pr : PR} (h : Own P f args res sz et rows) (hs : SubR ((res.to 0).sub 0 (.sl sz rows)) pr) : Pure P f args pr := by
  intro G w vals hle hvals
  refine (h G w vals hle hvals).mono ?_
  rintro e w' ⟨v, rfl, G', ρ, h1, h2, h3, h4, h5, h6, h7⟩
  let G'' : Heap := fun b => if blk (ρ 0) = some b then w'.heap[b]? else G' b
  have hG : GExt G' G'' := fun b o hb => by
    show (if blk (ρ 0) = some b then w'.heap[b]? else G' b) = some o
    split
    · exact h2 b o hb
    · exact hb
  have hle' : GLe G'' w' := fun b o hb => by
    change (if blk (ρ 0) = some b then w'.heap[b]? else G' b) = some o at hb
    split at hb
    · exact hb
    · exact h2 b o hb
  have ht : VRep G'' (ρ 0) (.sl sz rows) := h6.tree hG fun b hb => by show (if blk (ρ 0) = some b then w'.heap[b]? else G' b) = _; rw [if_pos hb]
  refine ⟨v, G'', rfl, hs.rep ((h1.move hG fun _ _ => rfl).sub ht), hle', fun b o hb => hG b o (h3 b o hb), ?_, h5⟩
  intro b o hb
  change (if blk (ρ 0) = some b then w'.heap[b]? else G' b) = some o at hb
  split at hb
  · rename_i he; exact .inr (h7 b he).2
  · exact h4 b o hb
end Go.AM
