import Derived.Test.YtidnlnnobegniaaA7
set_option linter.unusedVariables false
set_option linter.unusedSimpArgs false
namespace Go.AM
open Go.RowKit

variable {C : Ctx} {g : State} {o : Oper}

theorem vec_only {G : Heap} {ρ : Places} {s : State} {a : Act} {w : World} (h : RelG C G ρ s a w) {κ : Nat} {c : Cont} (hv : s (.vec κ) = some c) {l : Loc} {c' : Cont} (hl : s l = some c') (hk : l.key = some κ) : l = .vec κ := by
  cases l with
  | slot n => simp [Loc.key] at hk
  | vec κ' => simp [Loc.key] at hk; rw [hk]
  | cell κ' k =>
    simp [Loc.key] at hk
    subst hk
    obtain ⟨_, b, _, _, _, _, e1, _⟩ := h.cell _ k _ hl
    exact absurd e1 ((h.vec _ _ hv).nptr _)

/-- A row is handed over: its block may have turned. -/
theorem RelG.steal {G : Heap} {ρ : Places} {s : State} {a : Act} {w w' : World} (h : RelG C G ρ s a w) {κ : Nat} {c : Cont} (hv : s (.vec κ) = some c) (hg : w.grownBy w' (ρ κ).ownBlock) : RelG C G ρ (upd s (.vec κ) none) a w' := by
  have hsub : ∀ l c', upd s (.vec κ) none l = some c' → s l = some c' ∧ l.key ≠ some κ := by
    intro l c' hl
    by_cases e : l = .vec κ
    · subst e; rw [upd_same] at hl; simp at hl
    · rw [upd_ne _ _ e] at hl
      exact ⟨hl, fun hk => e (vec_only h hv hl hk)⟩
  have hblk : ∀ b, (ρ κ).ownBlock = some b → G b = none ∧ b < w.heap.size ∧ C.may (.vec κ) κ b := fun b hb => h.live _ _ κ b hv rfl (.inl (ownBlock_blk hb))
  have hoth : ∀ l c' κ' b, s l = some c' → l.key = some κ' → κ' ≠ κ → Owns ρ l κ' b → w'.heap[b]? = w.heap[b]? := by
    intro l c' κ' b hl hk hne hb
    refine hg.block b (h.live l c' κ' b hl hk hb).2.1 fun e => hne ?_
    exact h.inj l c' _ _ κ' κ b hl hv hk rfl hb (.inl (ownBlock_blk e.symm))
  refine ⟨hg.os.trans h.os, hg.tape.trans h.tape, hg.output.trans h.output, Nat.le_trans h.size hg.size, ?_, ?_, h.g0, h.gnew, ?_, h.old, h.defers, h.ntmps, ?_, ?_, ?_, ?_, ?_⟩
  · intro b hb hm
    rw [hg.block b (Nat.lt_of_lt_of_le hb h.size) fun e => ?_]
    · exact h.block b hb hm
    · rcases (hblk b e.symm).2.2 with h1 | h1 | h1
      · exact hm ⟨_, κ, h1.2.1, rfl, h1.2.2⟩
      · exact hm h1.m
      · omega
  · intro b o ho
    have h1 := h.gle b o ho
    rw [hg.block b (lt_of_heap h1) fun e => ?_]
    · exact h1
    · have := (hblk b e.symm).1; rw [this] at ho; simp at ho
  · intro b c' e' f hb0 hF
    obtain ⟨c2, g1, g2, g3⟩ := h.keep b c' e' f hb0 hF
    refine ⟨c2, ?_, g2, g3⟩
    rw [hg.block b (lt_of_heap g1) fun e => ?_]
    · exact g1
    · rcases (hblk b e.symm).2.2 with h1 | ⟨κ2, h1, h2⟩ | h1
      · exact hF κ h1.2.1 h1.2.2
      · exact hF κ2 h1 h2
      · have := lt_of_heap hb0; omega
  · intro l c' κ' b hl hk hb
    obtain ⟨h1, h2, h3⟩ := h.live l c' κ' b (hsub l c' hl).1 hk hb
    exact ⟨h1, Nat.lt_of_lt_of_le h2 hg.size, h3⟩
  · intro l c' l' c'' κ' κ'' b hl hl' hk hk' hb hb'
    exact h.inj l c' l' c'' κ' κ'' b (hsub _ _ hl).1 (hsub _ _ hl').1 hk hk' hb hb'
  · intro n x hx
    exact h.slot n x (hsub _ _ hx).1
  · intro κ' k x hx
    obtain ⟨hx', hne⟩ := hsub _ _ hx
    obtain ⟨y, b, u, c1, e, e1, e2, e3, e4, e5⟩ := h.cell κ' k x hx'
    refine ⟨y, b, u, c1, e, e1, e2, ?_, e4, e5⟩
    rw [hoth _ _ κ' b hx' rfl (by rintro rfl; exact hne rfl) (.inl (by rw [e2]; rfl))]
    exact e3
  · intro κ' x hx
    obtain ⟨hx', hne⟩ := hsub _ _ hx
    exact (h.vec κ' x hx').same (fun _ _ h => h) fun b hb => hoth _ _ κ' b hx' rfl (by rintro rfl; exact hne rfl) hb

/-- .. and comes back under a new key. -/
theorem RelG.hand {G : Heap} {ρ : Places} {s : State} {a : Act} {w w' : World} (h : RelG C G ρ s a w) {κ κ' : Nat} {c : Cont} (hv : s (.vec κ) = some c) (hκ' : ¬ Mentions s κ') (hg : w.grownBy w' (ρ κ).ownBlock)
    {v' : Value} {sz : Nat} {e : TypeId} {rows : List (List T)} (hv' : VecRep G w' v' sz e rows) (hb' : ∀ b, blk v' = some b → blk (ρ κ) = some b ∨ w.heap.size ≤ b) :
    RelG C G (setAt ρ κ' v') (upd (upd s (.vec κ) none) (.vec κ') (some (.r sz e rows))) a w' := by
  have h1 := h.steal hv hg
  have hm : ¬ Mentions (upd s (.vec κ) none) κ' := by
    rintro (hB | ⟨l, c', hl, hk⟩)
    · exact hκ' (.inl hB)
    refine hκ' (.inr ⟨l, c', ?_, hk⟩)
    by_cases e : l = .vec κ
    · subst e; rw [upd_same] at hl; simp at hl
    · rwa [upd_ne _ _ e] at hl
  have h2 := h1.extend (Grew.refl w') (fun _ _ h => h) h1.gle (fun b o hb => .inl hb) (ρ' := setAt ρ κ' v') (fun κ1 hκ1 => setAt_ne _ _ (by rintro rfl; exact hm hκ1)) fun κ1 hκ1 => setAt_X_ne _ _ (by rintro rfl; exact hm hκ1)
  refine h2.know (κ := κ') rfl ?_ ?_ (by simp) ?_
  · intro b hb
    have hb := setAt_owns_same hb
    have hlt := hv'.blk_lt hb
    rcases hb' b hb with h3 | h3
    · obtain ⟨h4, h5, h6⟩ := h.live _ _ κ b hv rfl (.inl h3)
      refine ⟨h4, hlt, ?_⟩
      rcases h6 with h6 | h6 | h6
      · exact .inr (.inl ⟨κ, h6.2.1, h6.2.2⟩)
      · exact .inr (.inl h6)
      · exact .inr (.inr h6)
    · refine ⟨?_, hlt, .inr (.inr (Nat.le_trans h.size h3))⟩
      cases hgb : G b with
      | none => rfl
      | some o => have := lt_of_heap (h.gle _ _ hgb); omega
  · intro l1 c1 κ1 b hl hk hb hbb
    have hbb := setAt_owns_same hbb
    by_cases e1 : κ1 = κ'
    · exact e1
    · exfalso
      have hb := setAt_owns_ne e1 hb
      have hl' : s l1 = some c1 ∧ l1 ≠ .vec κ := by
        by_cases e : l1 = .vec κ
        · subst e; rw [upd_same] at hl; simp at hl
        · rw [upd_ne _ _ e] at hl; exact ⟨hl, e⟩
      rcases hb' b hbb with h3 | h3
      · have := h.inj l1 c1 _ _ κ1 κ b hl'.1 hv hk rfl hb (.inl h3)
        subst this
        exact hl'.2 (vec_only h hv hl'.1 hk)
      · have := (h.live l1 c1 κ1 b hl'.1 hk hb).2.1
        omega
  · intro _
    show VecRep _ _ _ _ _ _
    rw [setAt_same]; exact hv'

theorem grown_grew {w w' : World} {v : Value} (h : w.grownBy w' v.ownBlock) (hv : v.ownBlock = none) : Grew w w' :=
  ⟨h.os, h.tape, h.output, h.size, fun b hb => h.block b hb (by rw [hv]; simp)⟩

/-! #### the source of an append -/
/-- What an operand is read as: a row of its own, a tree, nil. -/
inductive SrcOf (g : State) (x : Operand) (sz : Nat) : List (List T) → List (Loc × Cont) → Prop where
  | tree {rows} (h : ev g x = some (.v (.one (.t (.sl sz rows))))) : SrcOf g x sz rows (evr g x)
  | row {κ e rows} (h : ev g x = some (.v (.one (.row κ)))) : SrcOf g x sz rows (evr g x ++ [(.vec κ, .r sz e rows)])
  | nil (h : ev g x = some (sv (.slice none 0 0))) : SrcOf g x sz [] (evr g x)
  | part {κ lo n e rows} (h : ev g x = some (.v (.one (.part κ sz lo n)))) : SrcOf g x sz ((rows.drop lo).take n) (evr g x ++ [(.vec κ, .r sz e rows)])

theorem src_part {G : Heap} {w : World} {sz b m c lo n k : Nat} {ad : Addr} {rows : List (List T)} {news : List Value} (h : Src G w (.slice (some ⟨b, 0, none⟩) m c) sz rows news) (hm : lo + n ≤ m) (hk : n ≤ k) (had : n = 0 ∨ ad = ⟨b, lo * sz, none⟩) :
    ∃ news', Src G w (.slice (some ad) n k) sz ((rows.drop lo).take n) news' := by
  rcases h.val with ⟨h1, _⟩ | ⟨ad0, c', h1, h2, h3⟩
  · simp at h1
  · simp only [Value.slice.injEq, Option.some.injEq] at h1
    obtain ⟨e1, rfl, rfl⟩ := h1
    subst e1
    have hle : (lo + n) * sz ≤ rows.length * sz := Nat.mul_le_mul_right _ hm
    rw [Nat.add_mul] at hle
    have hlen := h.len
    have hrl : ((rows.drop lo).take n).length = n := by simp; omega
    have hrow : ∀ (i : Nat) cells, ((rows.drop lo).take n)[i]? = some cells → i < n ∧ rows[lo + i]? = some cells := by
      intro i cells hi
      rw [List.getElem?_take] at hi
      split at hi
      · rename_i hin; rw [List.getElem?_drop] at hi; exact ⟨hin, hi⟩
      · simp at hi
    have hnew : ∀ (j : Nat) u, ((news.drop (lo * sz)).take (n * sz))[j]? = some u ↔ j < n * sz ∧ news[lo * sz + j]? = some u := by
      intro j u
      rw [List.getElem?_take]
      split
      · rename_i hin; rw [List.getElem?_drop]; exact ⟨fun h => ⟨hin, h⟩, fun h => h.2⟩
      · rename_i hin; exact ⟨fun h => by simp at h, fun h => absurd h.1 hin⟩
    refine ⟨(news.drop (lo * sz)).take (n * sz), ⟨fun i cells hi => h.shape _ _ (hrow i cells hi).2, ?_, ?_, ?_, ?_⟩⟩
    · rw [hrl]; simp; omega
    · refine .inr ⟨ad, k, by rw [hrl], by rw [hrl]; omega, fun j u hj => ?_⟩
      obtain ⟨h5, h6⟩ := (hnew j u).1 hj
      rcases had with rfl | rfl
      · simp at h5
      · have := h3 _ _ h6
        rw [Addr.add_lit] at this ⊢
        simpa using this
    · intro u hu
      obtain ⟨j, hj, he⟩ := List.mem_iff_getElem.1 hu
      have h4 : ((news.drop (lo * sz)).take (n * sz))[j]? = some u := by rw [List.getElem?_eq_getElem hj, he]
      exact h.one u (List.mem_of_getElem? ((hnew j u).1 h4).2)
    · intro i cells k t hi hk
      obtain ⟨h4, h5⟩ := hrow i cells hi
      obtain ⟨u, h6, h7, h8⟩ := h.el (lo + i) cells k t h5 hk
      have hkl : k < sz := by rw [← h.shape _ _ h5]; exact (List.getElem?_eq_some_iff.1 hk).1
      refine ⟨u, (hnew _ _).2 ⟨?_, ?_⟩, h7, h8⟩
      · calc i * sz + k < i * sz + sz := by omega
          _ = (i + 1) * sz := by rw [Nat.add_mul, Nat.one_mul]
          _ ≤ n * sz := Nat.mul_le_mul_right _ (by omega)
      · rw [← h6]; congr 1; rw [Nat.add_mul]; omega

theorem SrcOf.src {g : State} {x : Operand} {sz : Nat} {rows : List (List T)} {rd : List (Loc × Cont)} (h : SrcOf g x sz rows rd) {G : Heap} {ρ : Places} {s : State} {a : Act} {w : World} (hrel : RelG C G ρ s a w) (hr : Reads rd s) : ∃ news, Src G w (a.eval x) sz rows news := by
  cases h with
  | tree h => exact src_tree hrel.gle (ev_rep h hr hrel).2
  | row h =>
    obtain ⟨r1, r2⟩ := Reads.app.1 hr
    have r2 := (Reads.cons.1 r2).1
    obtain ⟨_, e1, _⟩ := ev_rep h r1 hrel
    obtain ⟨sz', e', rows', g1, g2⟩ := hrel.vecr r2
    injection g1 with g1 g1' g1''
    subst g1; subst g1'; subst g1''
    rw [e1]
    exact src_vec g2
  | nil h =>
    have h1 := (ev_rep h hr hrel).2.lit_inv
    rw [h1]
    exact src_tree hrel.gle (VRep.nil G sz)
  | part h =>
    obtain ⟨r1, r2⟩ := Reads.app.1 hr
    have r2 := (Reads.cons.1 r2).1
    obtain ⟨_, b, m, c, e1, e2, ad, k, e3, e4, e5⟩ := ev_rep h r1 hrel
    obtain ⟨sz', e', rows', g1, g2⟩ := hrel.vecr r2
    injection g1 with g1 g1' g1''
    subst g1; subst g1'; subst g1''
    rw [e1] at g2
    obtain ⟨news, g3⟩ := src_vec g2
    rw [e3]
    exact src_part g3 e2 e4 e5

theorem run_append {a : Act} {w : World} {x z : Operand} {t u : TypeId} (ho : o.op = .call { callee := .builtin .append, args := #[x, z], argTypes := #[t, u] }) (v' : Value) (w' : World) (h : (Builtin.append_ #[t, u] o.type #[a.eval x, a.eval z]).run C.P w = .ok v' w') :
    (execOp a.eval o).run C.P w = .ok (.value v') w' := by
  simp [execOp, ho, resolve, invoke, builtin, h]

theorem ok_append_row {x z : Operand} {t u e e' : TypeId} {i iu j : TInfo} {κ κ' : Nat} {rows xr : List (List T)} {rd : List (Loc × Cont)} (ho : o.op = .call { callee := .builtin .append, args := #[x, z], argTypes := #[t, u] }) (hd : dstOK C o.dst)
    (ht : tinfo C.P t = some i) (hk : i.k = .slice e) (hu : tinfo C.P u = some iu) (hku : iu.k = .slice e') (hj : tinfo C.P e = some j) (hpos : 0 < j.size) (hx : ev g x = some (.v (.one (.row κ)))) (hz : SrcOf g z j.size xr rd)
    (hlen : (rows.length + xr.length) ≤ maxLen) (hbytes : (rows.length + xr.length) * j.bytes ≤ 140737488355328) :
    OpOK C o ⟨evr g x ++ [(.vec κ, .r j.size e rows)] ++ rd, [(.vec κ, none), (.vec κ', some (.r j.size e (rows ++ xr)))] ++ wrD o.dst (.v (.one (.row κ'))), [κ']⟩ :=
  opok_val hd fun G ρ s a w hrel hr hf => by
    obtain ⟨r12, r3⟩ := Reads.app.1 hr
    obtain ⟨r1, r2⟩ := Reads.app.1 r12
    have r2 := (Reads.cons.1 r2).1
    obtain ⟨_, e1, _⟩ := ev_rep hx r1 hrel
    obtain ⟨sz', et', rows', g1, g2⟩ := hrel.vecr r2
    injection g1 with g1 g1' g1''
    subst g1; subst g1'; subst g1''
    obtain ⟨news, hs⟩ := hz.src hrel r3
    obtain ⟨v', w', h1, h2, h3, h4⟩ := append_rep (t := t) (u := u) (ty := o.type) ht hk hu hku hj hpos g2 hs hlen hbytes
    rw [← e1] at h1
    refine ⟨v', w', G, setAt ρ κ' v', run_append ho v' w' h1, ?_, ?_⟩
    · exact hrel.hand r2 (hf κ' (by simp)) h3 h2 h4
    · obtain ⟨_, xs, hown, _⟩ := h2
      refine ⟨?_, (setAt_same _ _ _).symm, ?_⟩
      · rcases hown.2 with ⟨h5, _⟩ | ⟨_, _, _, h5, _⟩ <;> rw [h5] <;> rfl
      · rcases hown.2 with ⟨h5, _⟩ | ⟨_, _, _, h5, _⟩ <;> exact ⟨_, _, _, by rw [setAt_same, h5]⟩

theorem ok_append_nil {x z : Operand} {t u e e' : TypeId} {i iu j : TInfo} {κ' : Nat} {xr : List (List T)} {rd : List (Loc × Cont)} (ho : o.op = .call { callee := .builtin .append, args := #[x, z], argTypes := #[t, u] }) (hd : dstOK C o.dst)
    (ht : tinfo C.P t = some i) (hk : i.k = .slice e) (hu : tinfo C.P u = some iu) (hku : iu.k = .slice e') (hj : tinfo C.P e = some j) (hpos : 0 < j.size) (hx : ev g x = some (sv (.slice none 0 0))) (hz : SrcOf g z j.size xr rd)
    (hlen : xr.length ≤ maxLen) (hbytes : xr.length * j.bytes ≤ 140737488355328) :
    OpOK C o ⟨evr g x ++ rd, [(.vec κ', some (.r j.size e xr))] ++ wrD o.dst (.v (.one (.row κ'))), [κ']⟩ :=
  opok_val hd fun G ρ s a w hrel hr hf => by
    obtain ⟨r1, r3⟩ := Reads.app.1 hr
    have e1 := (ev_rep hx r1 hrel).2.lit_inv
    obtain ⟨news, hs⟩ := hz.src hrel r3
    have g2 : VecRep G w (.slice none 0 0) j.size e [] := ⟨by simp, [], World.ownsRow_nil w 0 e j.size, by simp⟩
    obtain ⟨v', w', h1, h2, h3, h4⟩ := append_rep (t := t) (u := u) (ty := o.type) ht hk hu hku hj hpos g2 hs (by simpa using hlen) (by simpa using hbytes)
    rw [← e1] at h1
    simp only [List.nil_append] at h2
    refine ⟨v', w', G, setAt ρ κ' v', run_append ho v' w' h1, ?_, ?_⟩
    · exact hrel.newVec (hf κ' (by simp)) (grown_grew h3 rfl) h2 fun b hb => (h4 b hb).resolve_left (by simp [blk])
    · obtain ⟨_, xs, hown, _⟩ := h2
      refine ⟨?_, (setAt_same _ _ _).symm, ?_⟩
      · rcases hown.2 with ⟨h5, _⟩ | ⟨_, _, _, h5, _⟩ <;> rw [h5] <;> rfl
      · rcases hown.2 with ⟨h5, _⟩ | ⟨_, _, _, h5, _⟩ <;> exact ⟨_, _, _, by rw [setAt_same, h5]⟩

/-! #### rows that are made -/
theorem new_row {G : Heap} {w : World} {e : TypeId} {sz n c : Nat} {cur : Array Value} {rows : List (List T)} (hn : rows.length = n) (hc : n ≤ c) (hm : c ≤ maxLen) (hcur : cur.size = c * sz) (hshape : ∀ (i : Nat) cells, rows[i]? = some cells → cells.length = sz)
    (hel : ∀ (i : Nat) cells (k : Nat) t, rows[i]? = some cells → cells[k]? = some t → ∃ u, cur[i * sz + k]? = some u ∧ u.oneCell' = true ∧ VRep G u t) :
    VecRep G { w with heap := w.heap.push (.cells cur e) } (.slice (some ⟨w.heap.size, 0, none⟩) n c) sz e rows := by
  subst hn
  refine ⟨hshape, cur.toList.take (rows.length * sz), ⟨?_, .inr ⟨w.heap.size, c, cur, rfl, Nat.zero_le _, heap_push _ _, hc, hm, hcur, rfl⟩⟩, ?_⟩
  · have hcl : cur.toList.length = c * sz := by simpa using hcur
    rw [List.length_take, hcl]
    exact Nat.min_eq_left (Nat.mul_le_mul_right _ hc)
  · intro i cells k t hi hk
    obtain ⟨u, h1, h2⟩ := hel i cells k t hi hk
    refine ⟨u, ?_, h2⟩
    have hil : i < rows.length := (List.getElem?_eq_some_iff.1 hi).1
    have hkl : k < sz := by rw [← hshape i cells hi]; exact (List.getElem?_eq_some_iff.1 hk).1
    rw [List.getElem?_take_of_lt]
    · simpa using h1
    · calc i * sz + k < i * sz + sz := by omega
        _ = (i + 1) * sz := by rw [Nat.add_mul, Nat.one_mul]
        _ ≤ rows.length * sz := Nat.mul_le_mul_right _ hil

theorem madeCells_at (z : Array Value) (n sz : Nat) (hz : z.size = sz) {i k : Nat} (hi : i < n) (hk : k < sz) : (madeCells z (n * sz))[i * sz + k]? = z[k]? := by
  have hlt : i * sz + k < n * sz := by
    calc i * sz + k < i * sz + sz := by omega
      _ = (i + 1) * sz := by rw [Nat.add_mul, Nat.one_mul]
      _ ≤ n * sz := Nat.mul_le_mul_right _ hi
  have e2 : (i * sz + k) % z.size = k := by rw [hz, Nat.mul_comm, Nat.mul_add_mod, Nat.mod_eq_of_lt hk]
  unfold madeCells
  rw [Array.getElem?_map, Array.getElem?_range, if_pos hlt]
  simp only [Option.map_some]
  rw [e2]
  have : k < z.size := by omega
  simp [this]

theorem ok_make {x z : Operand} {t e : TypeId} {i j : TInfo} {yx yz : SV} {k k' : IntKind} {n : Int} {κ : Nat} (ho : o.op = .makeSlice t x z) (hd : dstOK C o.dst) (ht : tinfo C.P t = some i) (hk : i.k = .slice e) (hj : tinfo C.P e = some j)
    (hx : ev g x = some yx) (hz : ev g z = some yz) (hvx : litV yx = some (.int k n)) (hvz : litV yz = some (.int k' n)) (h0 : 0 ≤ n) (hm : n ≤ 140737488355328) (hb : n * j.bytes ≤ 281474976710656) (h1 : j.zero.all (·.oneCell') = true) :
    OpOK C o ⟨evr g x ++ evr g z, [(.vec κ, some (.r j.size e (List.replicate n.toNat (j.zero.map .lit))))] ++ wrD o.dst (.v (.one (.row κ))), [κ]⟩ :=
  opok_val hd fun G ρ s a w hrel hr hf => by
    obtain ⟨r1, r2⟩ := Reads.app.1 hr
    have e1 := (litV_rep hvx (ev_rep hx r1 hrel)).1
    have e2 := (litV_rep hvz (ev_rep hz r2 hrel)).1
    obtain ⟨inf, d, zv, hs⟩ := tinfo_spec hj
    have hrun := run_make (P := C.P) w t e inf zv (und_slice ht hk) hs.info hs.zero k k' n n h0 (Int.le_refl _) (by rw [hs.bytes, Int.mul_comm]; exact hb) (by omega)
    rw [hs.size] at hrun
    have hzl : j.zero.length = j.size := by rw [← hs.cells, Array.length_toList, hs.zsize]
    have hv : VecRep G { w with heap := w.heap.push (.cells (madeCells zv.cells (n.toNat * j.size)) e) } (.slice (some ⟨w.heap.size, 0, none⟩) n.toNat n.toNat) j.size e (List.replicate n.toNat (j.zero.map .lit)) := by
      refine new_row (by simp) (Nat.le_refl _) (by simp only [maxLen]; omega) (size_madeCells _ _) ?_ ?_
      · intro i' cells hi
        rw [List.getElem?_replicate] at hi
        split at hi
        · injection hi with hi; subst hi; simp [hzl]
        · simp at hi
      · intro i' cells k2 t2 hi hk2
        rw [List.getElem?_replicate] at hi
        split at hi
        · rename_i hlt
          injection hi with hi
          subst hi
          simp only [List.getElem?_map, Option.map_eq_some_iff] at hk2
          obtain ⟨u, hu, rfl⟩ := hk2
          have hkl : k2 < j.size := by rw [← hzl]; exact (List.getElem?_eq_some_iff.1 hu).1
          refine ⟨u, ?_, List.all_eq_true.1 h1 u (List.mem_of_getElem? hu), .lit u⟩
          rw [madeCells_at _ _ _ hs.zsize hlt hkl, ← hu, ← hs.cells]
          simp
        · simp at hi
    have hex : (execOp a.eval o).run C.P w = .ok (.value (.slice (some ⟨w.heap.size, 0, none⟩) n.toNat n.toNat)) { w with heap := w.heap.push (.cells (madeCells zv.cells (n.toNat * j.size)) e) } := by
      simp only [execOp, ho, e1, e2, Sem.run_bind, hrun, Result.andThen_ok, Sem.run_pure]; rfl
    refine ⟨_, _, G, setAt ρ κ _, hex, hrel.newVec (hf κ (by simp)) (Grew.push w _) hv (fun b hb => by simp [blk] at hb; omega), ⟨rfl, (setAt_same _ _ _).symm, ⟨_, _, _, setAt_same _ _ _⟩⟩⟩

theorem flat_get {l : List Value} {sz : Nat} (hl : l.length = sz) : ∀ {n i k : Nat}, i < n → k < sz → ((List.replicate n l).flatten)[i * sz + k]? = l[k]?
  | n + 1, 0, k, _, hk => by
    rw [List.replicate_succ, List.flatten_cons, Nat.zero_mul, Nat.zero_add, List.getElem?_append_left (by omega)]
  | n + 1, i + 1, k, hi, hk => by
    rw [List.replicate_succ, List.flatten_cons, List.getElem?_append_right (by rw [hl, Nat.add_mul, Nat.one_mul]; omega)]
    have : (i + 1) * sz + k - l.length = i * sz + k := by rw [hl, Nat.add_mul, Nat.one_mul]; omega
    rw [this]
    exact flat_get hl (by omega) hk
theorem flat_len {l : List Value} {sz : Nat} (hl : l.length = sz) : ∀ n, ((List.replicate n l).flatten).length = n * sz
  | 0 => by simp
  | n + 1 => by rw [List.replicate_succ, List.flatten_cons, List.length_append, flat_len hl n, hl, Nat.add_mul, Nat.one_mul]; omega

/-- A variable that is an array of zero elements. -/
theorem ok_alloc_arr {t : TypeId} {i j : TInfo} {n κ : Nat} (ho : o.op = .alloc t) (hd : dstOK C o.dst) (ht : tinfo C.P t = some i) (h1 : i.zero = (List.replicate n j.zero).flatten) (h2 : j.zero.all (·.oneCell') = true) (h3 : j.zero.length = j.size) (h4 : n ≤ 1000000) :
    OpOK C o ⟨[], [(.vec κ, some (.r j.size t (List.replicate n (j.zero.map .lit))))] ++ wrD o.dst (.v (.one (.vptr κ j.size 0 0))), [κ]⟩ :=
  opok_val hd fun G ρ s a w hrel hr hf => by
    obtain ⟨inf, d, z, hs⟩ := tinfo_spec ht
    have hz : z.cells.toList = i.zero := hs.cells
    have hv : VecRep G { w with heap := w.heap.push (.cells z.cells t) } (.slice (some ⟨w.heap.size, 0, none⟩) n n) j.size t (List.replicate n (j.zero.map .lit)) := by
      refine new_row (by simp) (Nat.le_refl _) (by simp only [maxLen]; omega) ?_ ?_ ?_
      · have := congrArg List.length hz
        rw [h1, flat_len h3] at this
        simpa using this
      · intro i' cells hi
        rw [List.getElem?_replicate] at hi
        split at hi
        · injection hi with hi; subst hi; simp [h3]
        · simp at hi
      · intro i' cells k2 t2 hi hk2
        rw [List.getElem?_replicate] at hi
        split at hi
        · rename_i hlt
          injection hi with hi
          subst hi
          simp only [List.getElem?_map, Option.map_eq_some_iff] at hk2
          obtain ⟨u, hu, rfl⟩ := hk2
          have hkl : k2 < j.size := by rw [← h3]; exact (List.getElem?_eq_some_iff.1 hu).1
          refine ⟨u, ?_, List.all_eq_true.1 h2 u (List.mem_of_getElem? hu), .lit u⟩
          rw [← Array.getElem?_toList, hz, h1, flat_get h3 hlt hkl, hu]
        · simp at hi
    refine ⟨.pointer (some ⟨w.heap.size, 0, none⟩), { w with heap := w.heap.push (.cells z.cells t) }, G, setAt ρ κ (.slice (some ⟨w.heap.size, 0, none⟩) n n), ?_, ?_, ⟨rfl, w.heap.size, n, n, setAt_same _ _ _, by simp⟩⟩
    · simp [execOp, ho, Instr.alloc, hs.run_zero, newVar, newRow]
    · exact hrel.newVec (hf κ (by simp)) (Grew.push w _) hv (fun b hb => by simp [blk] at hb; omega)

end Go.AM
