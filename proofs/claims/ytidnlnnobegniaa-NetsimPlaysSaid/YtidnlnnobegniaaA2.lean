import Derived.Test.YtidnlnnobegniaaA1
import Derived.Laws.Entries
set_option linter.unusedVariables false
set_option linter.unusedSimpArgs false
namespace Go.AM
open Go.RowKit

/-! ### 5. What moves a state -/
variable {C : Ctx} {G : Heap} {ρ : Places} {s : State} {a : Act} {w : World}

theorem SVRep.tuple_or {y : SV} {v : Value} (h : SVRep G ρ v y) : True := trivial

theorem RelG.put (h : RelG C G ρ s a w) {d : Nat} (hd : d < C.N) {v : Value} {y : SV} (hv : SVRep G ρ v y) : RelG C G ρ (upd s (.slot d) (some (.s y))) (a.put (some d) v) w where
  os := h.os
  tape := h.tape
  output := h.output
  size := h.size
  block := h.block
  gle := h.gle
  g0 := h.g0
  gnew := h.gnew
  keep := h.keep
  old := h.old
  defers := h.defers
  ntmps := by simp [Act.put, h.ntmps]
  live := fun l c κ b hl hk => by
    by_cases e : l = .slot d
    · subst e; simp [Loc.key] at hk
    · rw [upd_ne _ _ e] at hl; exact h.live l c κ b hl hk
  inj := fun l c l' c' κ κ' b hl hl' hk hk' => by
    by_cases e : l = .slot d
    · subst e; simp [Loc.key] at hk
    · by_cases e' : l' = .slot d
      · subst e'; simp [Loc.key] at hk'
      · rw [upd_ne _ _ e] at hl; rw [upd_ne _ _ e'] at hl'; exact h.inj l c l' c' κ κ' b hl hl' hk hk'
  slot := fun n x hx => by
    by_cases e : n = d
    · subst e
      rw [upd_same] at hx
      injection hx with hx
      exact ⟨v, y, hx.symm, by simp [Act.put, h.ntmps, hd], hv⟩
    · rw [upd_ne _ _ (by simpa using e)] at hx
      obtain ⟨v', y', e1, e2, e3⟩ := h.slot n x hx
      exact ⟨v', y', e1, by simp [Act.put, Array.getElem?_setIfInBounds_ne (Ne.symm e), e2], e3⟩
  cell := fun κ k x hx => by rw [upd_ne _ _ (by simp)] at hx; exact h.cell κ k x hx
  vec := fun κ x hx => by rw [upd_ne _ _ (by simp)] at hx; exact h.vec κ x hx

theorem RelG.unput (h : RelG C G ρ s a w) (d : Nat) (v : Value) : RelG C G ρ (upd s (.slot d) none) (a.put (some d) v) w where
  os := h.os
  tape := h.tape
  output := h.output
  size := h.size
  block := h.block
  gle := h.gle
  g0 := h.g0
  gnew := h.gnew
  keep := h.keep
  old := h.old
  defers := h.defers
  ntmps := by simp [Act.put, h.ntmps]
  live := fun l c κ b hl hk => by
    by_cases e : l = .slot d
    · subst e; simp [Loc.key] at hk
    · rw [upd_ne _ _ e] at hl; exact h.live l c κ b hl hk
  inj := fun l c l' c' κ κ' b hl hl' hk hk' => by
    by_cases e : l = .slot d
    · subst e; simp [Loc.key] at hk
    · by_cases e' : l' = .slot d
      · subst e'; simp [Loc.key] at hk'
      · rw [upd_ne _ _ e] at hl; rw [upd_ne _ _ e'] at hl'; exact h.inj l c l' c' κ κ' b hl hl' hk hk'
  slot := fun n x hx => by
    by_cases e : n = d
    · subst e; rw [upd_same] at hx; simp at hx
    · rw [upd_ne _ _ (by simpa using e)] at hx
      obtain ⟨v', y', e1, e2, e3⟩ := h.slot n x hx
      exact ⟨v', y', e1, by simp [Act.put, Array.getElem?_setIfInBounds_ne (Ne.symm e), e2], e3⟩
  cell := fun κ k x hx => by rw [upd_ne _ _ (by simp)] at hx; exact h.cell κ k x hx
  vec := fun κ x hx => by rw [upd_ne _ _ (by simp)] at hx; exact h.vec κ x hx

/-- What is new in a world: old blocks stay. -/
structure Grew (w w' : World) : Prop where
  os : w'.os = w.os
  tape : w'.tape = w.tape
  output : w'.output = w.output
  size : w.heap.size ≤ w'.heap.size
  block : ∀ b, b < w.heap.size → w'.heap[b]? = w.heap[b]?

theorem Grew.refl (w : World) : Grew w w := ⟨rfl, rfl, rfl, Nat.le_refl _, fun _ _ => rfl⟩
theorem Grew.below {w w' : World} (h : Below w.heap.size w w') : Grew w w' := ⟨h.os, h.tape, h.output, h.size, h.block⟩
theorem Grew.to_below {w w' : World} (h : Grew w w') : Below w.heap.size w w' := ⟨h.os, h.tape, h.output, h.size, h.block⟩
theorem Grew.drew (w : World) (n : Nat) : Grew w { w with drawn := n } := ⟨rfl, rfl, rfl, Nat.le_refl _, fun _ _ => rfl⟩
theorem Grew.trans {w w' w'' : World} (h : Grew w w') (h' : Grew w' w'') : Grew w w'' :=
  ⟨h'.os.trans h.os, h'.tape.trans h.tape, h'.output.trans h.output, Nat.le_trans h.size h'.size, fun b hb => (h'.block b (Nat.lt_of_lt_of_le hb h.size)).trans (h.block b hb)⟩
theorem Grew.push (w : World) (o : Obj) : Grew w { w with heap := w.heap.push o } :=
  ⟨rfl, rfl, rfl, by simp, fun b hb => by simp [Array.getElem?_push, Nat.ne_of_lt hb]⟩

theorem heap_push (w : World) (o : Obj) : ({ w with heap := w.heap.push o } : World).heap[w.heap.size]? = some o := by simp

theorem Grew.gle {w w' : World} (h : Grew w w') {G : Heap} (hg : GLe G w) : GLe G w' := fun b o hb => by
  have h1 := hg b o hb
  rw [h.block b (lt_of_heap h1), h1]

/-- New memory, more that nobody writes, other places for what isn't spoken of. -/
theorem RelG.extend (h : RelG C G ρ s a w) {w' : World} (hw : Grew w w') {G' : Heap} (hG : GExt G G') (hle : GLe G' w') (hnew : ∀ b o, G' b = some o → G b = some o ∨ w.heap.size ≤ b) {ρ' : Places} (hρ : ∀ κ, Mentions s κ → ρ' κ = ρ κ) (hX : ∀ κ, Mentions s κ → ρ'.X κ = ρ.X κ) : RelG C G' ρ' s a w' where
  os := hw.os.trans h.os
  tape := hw.tape.trans h.tape
  output := hw.output.trans h.output
  size := Nat.le_trans h.size hw.size
  block := fun b hb hm => (hw.block b (Nat.lt_of_lt_of_le hb h.size)).trans (h.block b hb hm)
  gle := hle
  g0 := fun b o hb => hG b o (h.g0 b o hb)
  gnew := fun b o hb => by
    rcases hnew b o hb with h1 | h1
    · exact h.gnew b o h1
    · exact .inr (.inl (Nat.le_trans h.size h1))
  keep := fun b c e f hb hF => by
    obtain ⟨c', h1, h2, h3⟩ := h.keep b c e f hb hF
    exact ⟨c', by rw [hw.block b (lt_of_heap h1)]; exact h1, h2, h3⟩
  old := fun κ hκ => (hρ κ (.inl hκ)).trans (h.old κ hκ)
  defers := h.defers
  ntmps := h.ntmps
  live := fun l c κ b hl hk hb => by
    have hb : Owns ρ l κ b := by
      unfold Owns at hb ⊢
      rwa [hρ κ (.inr ⟨l, c, hl, .inl hk⟩), hX κ (.inr ⟨l, c, hl, .inl hk⟩)] at hb
    obtain ⟨h1, h2, h3⟩ := h.live l c κ b hl hk hb
    refine ⟨?_, Nat.lt_of_lt_of_le h2 hw.size, h3⟩
    cases hg : G' b with
    | none => rfl
    | some o =>
      rcases hnew b o hg with h4 | h4
      · rw [h1] at h4; simp at h4
      · omega
  inj := fun l c l' c' κ κ' b hl hl' hk hk' hb hb' => by
    have hb : Owns ρ l κ b := by
      unfold Owns at hb ⊢
      rwa [hρ κ (.inr ⟨l, c, hl, .inl hk⟩), hX κ (.inr ⟨l, c, hl, .inl hk⟩)] at hb
    have hb' : Owns ρ l' κ' b := by
      unfold Owns at hb' ⊢
      rwa [hρ κ' (.inr ⟨l', c', hl', .inl hk'⟩), hX κ' (.inr ⟨l', c', hl', .inl hk'⟩)] at hb'
    exact h.inj l c l' c' κ κ' b hl hl' hk hk' hb hb'
  slot := fun n x hx => by
    obtain ⟨v, y, e1, e2, e3⟩ := h.slot n x hx
    exact ⟨v, y, e1, e2, e3.move hG fun κ hκ => hρ κ (.inr ⟨_, _, hx, .inr (by rw [e1]; exact hκ)⟩)⟩
  cell := fun κ k x hx => by
    obtain ⟨y, b, u, c, e, e1, e2, e3, e4, e5⟩ := h.cell κ k x hx
    exact ⟨y, b, u, c, e, e1, by rw [hρ κ (.inr ⟨_, _, hx, .inl rfl⟩)]; exact e2, by rw [hw.block b (lt_of_heap e3)]; exact e3, e4, e5.move hG fun κ hκ => hρ κ (.inr ⟨_, _, hx, .inr (by rw [e1]; exact hκ)⟩)⟩
  vec := fun κ x hx => by
    exact (h.vec κ x hx).ext hG (hρ κ (.inr ⟨_, _, hx, .inl rfl⟩)) (hX κ (.inr ⟨_, _, hx, .inl rfl⟩)) (fun k hk => hρ k (.inr ⟨_, _, hx, .inr hk⟩)) fun b hb => hw.block b (h.live _ _ κ b hx rfl hb).2.1

/-- One block is written: what is known of its key is said anew. -/
theorem RelG.write (h : RelG C G ρ s a w) {κ b : Nat} {cur cur' : Array Value} {e : TypeId} (hlive : ∃ l c, s l = some c ∧ l.key = some κ) (hb : blk (ρ κ) = some b) (hcur : w.heap[b]? = some (.cells cur e (0, 0)))
    {s' : State} (hs : ∀ l, l.key ≠ some κ → s' l = s l) (hs2 : ∀ l c, l.key = some κ → s' l = some c → ∃ c', s l = some c')
    (hsize : cur'.size = cur.size) (hwr : ∀ k, cur'[k]? = cur[k]? ∨ ∃ l c, s l = some c ∧ (l = .cell κ k ∨ l = .vec κ))
    (hc : ∀ k x, s' (.cell κ k) = some x → ∃ y u, x = .c y ∧ ρ κ = .pointer (some ⟨b, 0, none⟩) ∧ cur'[k]? = some u ∧ AtRep G ρ u y)
    (hv : ∀ x, s' (.vec κ) = some x → ContRep G (w.setRow b cur') ρ κ x) : RelG C G ρ s' a (w.setRow b cur') := by
  obtain ⟨l0, c0, hl0, hk0⟩ := hlive
  obtain ⟨hGb, hblt, hM⟩ := h.live l0 c0 κ b hl0 hk0 (.inl hb)
  have hoth : ∀ b', b' ≠ b → (w.setRow b cur').heap[b']? = w.heap[b']? := fun b' hb' => setRow_other w b b' cur' hb'
  have hne : ∀ l c κ' b', s l = some c → l.key = some κ' → κ' ≠ κ → Owns ρ l κ' b' → b' ≠ b := by
    intro l c κ' b' hl hk hκ hb' e
    subst e
    exact hκ (h.inj l c l0 c0 κ' κ b' hl hl0 hk hk0 hb' (.inl hb))
  refine ⟨h.os, h.tape, h.output, ?_, ?_, ?_, h.g0, h.gnew, ?_, h.old, h.defers, h.ntmps, ?_, ?_, ?_, ?_, ?_⟩
  · rw [size_setRow]; exact h.size
  · intro b' hb' hm
    rw [hoth b' ?_]
    · exact h.block b' hb' hm
    · rintro rfl
      rcases hM with h1 | h1 | h1
      · exact hm ⟨l0, κ, h1.2.1, hk0, h1.2.2⟩
      · exact hm h1.m
      · omega
  · intro b' o ho
    rw [hoth b' ?_]
    · exact h.gle b' o ho
    · rintro rfl; rw [hGb] at ho; simp at ho
  · intro b' c e' f hb0 hF
    obtain ⟨c', g1, g2, g3⟩ := h.keep b' c e' f hb0 hF
    by_cases hbb : b' = b
    · subst hbb
      rw [hcur] at g1
      injection g1 with g1
      injection g1 with g1 g1' g1''
      subst g1; subst g1'; subst g1''
      refine ⟨cur', setRow_heap w b' cur cur' e (0, 0) hcur, hsize.trans g2, fun k hk => ?_⟩
      rcases hwr k with h1 | ⟨l, cc, hl, hlk⟩
      · rw [h1]; exact g3 k hk
      · exfalso
        have hlkey : l.key = some κ := by rcases hlk with rfl | rfl <;> rfl
        rcases (h.live l cc κ b' hl hlkey (.inl hb)).2.2 with h2 | ⟨κ2, h2, h3⟩ | h2
        · rcases hlk with rfl | rfl
          · exact hk κ h2.2.1 h2.2.2.cell
          · exact hF κ h2.2.1 h2.2.2
        · exact hF κ2 h2 h3
        · have := lt_of_heap hb0; omega
    · exact ⟨c', by rw [hoth b' hbb]; exact g1, g2, g3⟩
  · intro l c κ' b' hl hk hb'
    rw [size_setRow]
    by_cases e : l.key = some κ
    · obtain ⟨c', hl'⟩ := hs2 l c e hl
      rw [e] at hk
      injection hk with hk
      subst hk
      exact h.live l c' κ b' hl' e hb'
    · rw [hs l e] at hl
      exact h.live l c κ' b' hl hk hb'
  · intro l c l' c' κ1 κ2 b' hl hl' hk hk' hb1 hb2
    by_cases e1 : l.key = some κ <;> by_cases e2 : l'.key = some κ
    · rw [e1] at hk; rw [e2] at hk'
      injection hk with hk; injection hk' with hk'
      rw [← hk, ← hk']
    · rw [hs l' e2] at hl'
      rw [e1] at hk
      injection hk with hk
      subst hk
      obtain ⟨c2, hl2⟩ := hs2 l c e1 hl
      exact h.inj l c2 l' c' κ κ2 b' hl2 hl' e1 hk' hb1 hb2
    · rw [hs l e1] at hl
      rw [e2] at hk'
      injection hk' with hk'
      subst hk'
      obtain ⟨c2, hl2⟩ := hs2 l' c' e2 hl'
      exact h.inj l c l' c2 κ1 κ b' hl hl2 hk e2 hb1 hb2
    · rw [hs l e1] at hl; rw [hs l' e2] at hl'
      exact h.inj l c l' c' κ1 κ2 b' hl hl' hk hk' hb1 hb2
  · intro n x hx
    rw [hs _ (by simp [Loc.key])] at hx
    exact h.slot n x hx
  · intro κ' k x hx
    by_cases e1 : κ' = κ
    · subst e1
      obtain ⟨y, u, e1, e2, e3, e4⟩ := hc k x hx
      exact ⟨y, b, u, cur', e, e1, e2, setRow_heap w b cur cur' e (0, 0) hcur, e3, e4⟩
    · rw [hs _ (by simpa [Loc.key] using e1)] at hx
      obtain ⟨y, b', u, c, e', h1, h2, h3, h4, h5⟩ := h.cell κ' k x hx
      refine ⟨y, b', u, c, e', h1, h2, ?_, h4, h5⟩
      rw [hoth b' (hne _ _ κ' b' hx rfl e1 (.inl (by rw [h2]; rfl)))]
      exact h3
  · intro κ' x hx
    by_cases e1 : κ' = κ
    · subst e1; exact hv x hx
    · rw [hs _ (by simpa [Loc.key] using e1)] at hx
      exact (h.vec κ' x hx).same (fun _ _ h => h) fun b' hb' => hoth b' (hne _ _ κ' b' hx rfl e1 hb')

/-- A fact more, on a key of its own block. -/
theorem RelG.know (h : RelG C G ρ s a w) {l : Loc} {c : Cont} {κ : Nat} (hk : l.key = some κ)
    (hlive : ∀ b, Owns ρ l κ b → G b = none ∧ b < w.heap.size ∧ C.may l κ b)
    (hinj : ∀ l' c' κ' b, s l' = some c' → l'.key = some κ' → Owns ρ l' κ' b → Owns ρ l κ b → κ' = κ)
    (hc : ∀ k, l = .cell κ k → ∃ y b u c' e, c = .c y ∧ ρ κ = .pointer (some ⟨b, 0, none⟩) ∧ w.heap[b]? = some (.cells c' e (0, 0)) ∧ c'[k]? = some u ∧ AtRep G ρ u y)
    (hv : l = .vec κ → ContRep G w ρ κ c) : RelG C G ρ (upd s l (some c)) a w where
  os := h.os
  tape := h.tape
  output := h.output
  size := h.size
  block := h.block
  gle := h.gle
  g0 := h.g0
  gnew := h.gnew
  keep := h.keep
  old := h.old
  defers := h.defers
  ntmps := h.ntmps
  live := fun l' c' κ' b hl hk' hb => by
    by_cases e : l' = l
    · subst e; rw [hk] at hk'; injection hk' with hk'; subst hk'; exact hlive b hb
    · rw [upd_ne _ _ e] at hl; exact h.live l' c' κ' b hl hk' hb
  inj := fun l1 c1 l2 c2 κ1 κ2 b hl hl' hk1 hk2 hb1 hb2 => by
    by_cases e1 : l1 = l <;> by_cases e2 : l2 = l
    · subst e1; subst e2; rw [hk1] at hk2; injection hk2
    · subst e1; rw [upd_ne _ _ e2] at hl'; rw [hk] at hk1; injection hk1 with hk1; subst hk1; exact (hinj l2 c2 κ2 b hl' hk2 hb2 hb1).symm
    · subst e2; rw [upd_ne _ _ e1] at hl; rw [hk] at hk2; injection hk2 with hk2; subst hk2; exact hinj l1 c1 κ1 b hl hk1 hb1 hb2
    · rw [upd_ne _ _ e1] at hl; rw [upd_ne _ _ e2] at hl'; exact h.inj l1 c1 l2 c2 κ1 κ2 b hl hl' hk1 hk2 hb1 hb2
  slot := fun n x hx => by
    rw [upd_ne _ _ (by rintro rfl; simp [Loc.key] at hk)] at hx
    exact h.slot n x hx
  cell := fun κ' k x hx => by
    by_cases e : (Loc.cell κ' k) = l
    · subst e
      simp only [Loc.key, Option.some.injEq] at hk
      subst hk
      rw [upd_same] at hx
      injection hx with hx
      subst hx
      exact hc k rfl
    · rw [upd_ne _ _ e] at hx; exact h.cell κ' k x hx
  vec := fun κ' x hx => by
    by_cases e : (Loc.vec κ') = l
    · subst e
      simp only [Loc.key, Option.some.injEq] at hk
      subst hk
      rw [upd_same] at hx
      injection hx with hx
      subst hx
      exact hv rfl
    · rw [upd_ne _ _ e] at hx; exact h.vec κ' x hx

/-- What isn't spoken of any more. -/
theorem RelG.forget (h : RelG C G ρ s a w) {s' : State} (hs : ∀ l c, s' l = some c → s l = some c) : RelG C G ρ s' a w :=
  { h with
    live := fun l c κ b hl => h.live l c κ b (hs _ _ hl)
    inj := fun l c l' c' κ κ' b hl hl' => h.inj l c l' c' κ κ' b (hs _ _ hl) (hs _ _ hl')
    slot := fun n x hx => h.slot n x (hs _ _ hx)
    cell := fun κ k x hx => h.cell κ k x (hs _ _ hx)
    vec := fun κ x hx => h.vec κ x (hs _ _ hx) }

/-- A variable that is made: its cells, known one by one. -/
def mkVar (κ : Nat) (i : Nat) : List At → List (Loc × Option Cont)
  | [] => []
  | y :: ys => (.cell κ i, some (.c y)) :: mkVar κ (i + 1) ys

def setAt (ρ : Places) (κ : Nat) (v : Value) : Places := ⟨fun κ' => if κ' = κ then v else ρ κ', fun κ' => if κ' = κ then fun _ => False else ρ.X κ'⟩
theorem setAt_X_same (ρ : Places) (κ : Nat) (v : Value) (b : Nat) : ¬ (setAt ρ κ v).X κ b := by simp [setAt]
theorem setAt_X_ne (ρ : Places) {κ κ' : Nat} (v : Value) (h : κ' ≠ κ) : (setAt ρ κ v).X κ' = ρ.X κ' := by simp [setAt, h]
theorem setAt_owns_same {ρ : Places} {κ : Nat} {v : Value} {l : Loc} {b : Nat} (h : Owns (setAt ρ κ v) l κ b) : blk v = some b := by
  rcases h with h | h
  · simpa [setAt] using h
  · exact absurd h.2 (setAt_X_same _ _ _ _)
theorem setAt_owns_ne {ρ : Places} {κ κ' : Nat} {v : Value} {l : Loc} {b : Nat} (hn : κ' ≠ κ) (h : Owns (setAt ρ κ v) l κ' b) : Owns ρ l κ' b := by
  unfold Owns at h ⊢
  simpa [setAt, hn] using h
theorem setAt_same (ρ : Places) (κ : Nat) (v : Value) : setAt ρ κ v κ = v := by simp [setAt]
theorem setAt_ne (ρ : Places) {κ κ' : Nat} (v : Value) (h : κ' ≠ κ) : setAt ρ κ v κ' = ρ κ' := by simp [setAt, h]

theorem RelG.newVar (h : RelG C G ρ s a w) {κ : Nat} (hκ : ¬ Mentions s κ) {vs : List Value} {ys : List At} (hv : All2 (AtRep G ρ) vs ys) (hy : ∀ y, y ∈ ys → κ ∉ y.keys) (e : TypeId) :
    RelG C G (setAt ρ κ (.pointer (some ⟨w.heap.size, 0, none⟩))) (applys s (mkVar κ 0 ys)) a { w with heap := w.heap.push (.cells vs.toArray e) } := by
  have hgrow := Grew.push w (.cells vs.toArray e)
  have h1 := h.extend hgrow (fun _ _ h => h) (hgrow.gle h.gle) (fun b o hb => .inl hb) (ρ' := setAt ρ κ (.pointer (some ⟨w.heap.size, 0, none⟩))) (fun κ' hκ' => setAt_ne _ _ (by rintro rfl; exact hκ hκ')) fun κ' hκ' => setAt_X_ne _ _ (by rintro rfl; exact hκ hκ')
  have hold : ∀ l c κ', s l = some c → l.key = some κ' → κ' ≠ κ := fun l c κ' hl hk e => hκ (.inr ⟨l, c, hl, .inl (by rw [hk, e])⟩)
  have key : ∀ (ys' : List At) (i : Nat) (s' : State), (∀ j y, ys'[j]? = some y → ys[i + j]? = some y) → RelG C G (setAt ρ κ (.pointer (some ⟨w.heap.size, 0, none⟩))) s' a { w with heap := w.heap.push (.cells vs.toArray e) } →
      (∀ l c κ', s' l = some c → l.key = some κ' → κ' ≠ κ → s l = some c) →
      RelG C G (setAt ρ κ (.pointer (some ⟨w.heap.size, 0, none⟩))) (applys s' (mkVar κ i ys')) a { w with heap := w.heap.push (.cells vs.toArray e) } := by
    intro ys'
    induction ys' with
    | nil => intro i s' _ h' _; exact h'
    | cons y ys' ih =>
      intro i s' hys h' hs'
      rw [mkVar, applys_cons]
      refine ih (i + 1) _ (fun j y' hj => by have := hys (j + 1) y' (by simpa using hj); rwa [show i + 1 + j = i + (j + 1) by omega]) ?_ ?_
      · have hyi := hys 0 y rfl
        rw [Nat.add_zero] at hyi
        obtain ⟨u, hu, hr⟩ := hv.get hyi
        refine h'.know (κ := κ) rfl ?_ ?_ ?_ (by simp)
        · intro b hb
          have hb := setAt_owns_same hb
          simp [blk] at hb
          subst hb
          refine ⟨?_, by simp, .inr (.inr h.size)⟩
          cases hg : G w.heap.size with
          | none => rfl
          | some o => have := lt_of_heap (h.gle _ _ hg); omega
        · intro l' c' κ' b hl hk hb hb'
          have hb' := setAt_owns_same hb'
          simp [blk] at hb'
          subst hb'
          by_cases e1 : κ' = κ
          · exact e1
          · exfalso
            have hb := setAt_owns_ne e1 hb
            have := (h.live l' c' κ' _ (hs' l' c' κ' hl hk e1) hk hb).2.1
            omega
        · intro k hk
          simp only [Loc.cell.injEq] at hk
          obtain ⟨_, rfl⟩ := hk
          refine ⟨y, w.heap.size, u, vs.toArray, e, rfl, setAt_same _ _ _, heap_push _ _, by simpa using hu, hr.move (fun _ _ h => h) fun κ' hκ' => setAt_ne _ _ ?_⟩
          rintro rfl
          exact hy y (List.mem_of_getElem? hyi) hκ'
      · intro l c κ' hl hk hne
        by_cases e1 : l = .cell κ i
        · subst e1; simp [Loc.key] at hk; exact absurd hk.symm hne
        · rw [upd_ne _ _ e1] at hl; exact hs' l c κ' hl hk hne
  exact key ys 0 s (fun j y hj => by simpa using hj) h1 (fun l c κ' hl _ _ => hl)

/-- A row whose place is new. -/
theorem RelG.newVec (h : RelG C G ρ s a w) {κ : Nat} (hκ : ¬ Mentions s κ) {w' : World} (hgrow : Grew w w') {v : Value} {sz : Nat} {e : TypeId} {rows : List (List T)} (hv : VecRep G w' v sz e rows) (hnew : ∀ b, blk v = some b → w.heap.size ≤ b) :
    RelG C G (setAt ρ κ v) (upd s (.vec κ) (some (.r sz e rows))) a w' := by
  have h1 := h.extend hgrow (fun _ _ h => h) (hgrow.gle h.gle) (fun b o hb => .inl hb) (ρ' := setAt ρ κ v) (fun κ' hκ' => setAt_ne _ _ (by rintro rfl; exact hκ hκ')) fun κ' hκ' => setAt_X_ne _ _ (by rintro rfl; exact hκ hκ')
  refine h1.know (κ := κ) rfl ?_ ?_ (by simp) ?_
  · intro b hb
    have hb := setAt_owns_same hb
    have hge := hnew b hb
    refine ⟨?_, hv.blk_lt hb, .inr (.inr (Nat.le_trans h.size hge))⟩
    cases hg : G b with
    | none => rfl
    | some o => have := lt_of_heap (h.gle _ _ hg); omega
  · intro l' c' κ' b hl hk hb hb'
    have hb' := setAt_owns_same hb'
    have hge := hnew b hb'
    by_cases e1 : κ' = κ
    · exact e1
    · exfalso
      have hb := setAt_owns_ne e1 hb
      have := (h.live l' c' κ' _ hl hk hb).2.1
      omega
  · intro _
    show VecRep _ _ _ _ _ _
    rw [setAt_same]; exact hv

theorem RelG.vecr (h : RelG C G ρ s a w) {κ sz : Nat} {e : TypeId} {rows : List (List T)} (hv : s (.vec κ) = some (.r sz e rows)) : ∃ sz' e' rows', Cont.r sz e rows = .r sz' e' rows' ∧ VecRep G w (ρ κ) sz' e' rows' := ⟨_, _, _, rfl, h.vec κ _ hv⟩
end Go.AM
