import Derived.Test.YtidnlnnobegniaaM1
set_option linter.unusedVariables false
set_option linter.unusedSimpArgs false
namespace Go.AM
open Go.RowKit
variable {C : Ctx} {G : Heap} {ρ : Places} {s : State} {a : Act} {w : World}

/-- Keys change hands: what some owned, others own; what they own is written, and new blocks come. -/
theorem RelG.trade (h : RelG C G ρ s a w) {w' : World} (hos : w'.os = w.os) (htape : w'.tape = w.tape) (hout : w'.output = w.output) (hsize : w.heap.size ≤ w'.heap.size)
    {D N : List Nat} {s' : State} {ρ' : Places}
    (hD : ∀ κ, κ ∈ D → ∃ c, s (.vec κ) = some c)
    (hheap : ∀ b, b < w.heap.size → (∀ κ, κ ∈ D → ¬ Owns ρ (.vec κ) κ b) → w'.heap[b]? = w.heap[b]?)
    (hs : ∀ l c, s' l = some c → (s l = some c ∧ ∀ κ, κ ∈ D → l ≠ .vec κ) ∨ ∃ κ, κ ∈ N ∧ l = .vec κ)
    (hρ : ∀ κ, Mentions s κ → ρ' κ = ρ κ)
    (hX : ∀ κ, Mentions s κ → κ ∉ D → ρ'.X κ = ρ.X κ)
    (hcont : ∀ κ c, κ ∈ N → s' (.vec κ) = some c → ContRep G w' ρ' κ c)
    (hown : ∀ κ c b, κ ∈ N → s' (.vec κ) = some c → Owns ρ' (.vec κ) κ b → b < w'.heap.size ∧ ((∃ κ0, κ0 ∈ D ∧ Owns ρ (.vec κ0) κ0 b) ∨ w.heap.size ≤ b))
    (hdis : ∀ κ κ' b, κ ∈ N → κ' ∈ N → Owns ρ' (.vec κ) κ b → Owns ρ' (.vec κ') κ' b → κ = κ') : RelG C G ρ' s' a w' := by
  -- what the traders own
  have hDl : ∀ κ b, κ ∈ D → Owns ρ (.vec κ) κ b → G b = none ∧ b < w.heap.size ∧ (C.MV b ∨ C.w0.heap.size ≤ b) := by
    intro κ b hκ ho
    obtain ⟨c, hc⟩ := hD κ hκ
    obtain ⟨h1, h2, h3⟩ := h.live _ c κ b hc rfl ho
    refine ⟨h1, h2, ?_⟩
    rcases h3 with ⟨_, h4, h5⟩ | h3 | h3
    · exact .inl ⟨κ, h4, h5⟩
    · exact .inl h3
    · exact .inr h3
  have hold : ∀ l c κ b, s l = some c → (∀ κ, κ ∈ D → l ≠ .vec κ) → l.key = some κ → Owns ρ' l κ b → Owns ρ l κ b := by
    rintro l c κ b hl hne hk (ho | ⟨e, ho⟩)
    · rw [hρ κ (.inr ⟨l, c, hl, .inl hk⟩)] at ho; exact .inl ho
    · subst e
      rw [hX κ (.inr ⟨_, c, hl, .inl hk⟩) fun hκ => hne κ hκ rfl] at ho
      exact .inr ⟨rfl, ho⟩
  -- an old key's blocks are no trader's
  have hnot : ∀ l c κ b, s l = some c → (∀ κ, κ ∈ D → l ≠ .vec κ) → l.key = some κ → Owns ρ l κ b → ∀ κ0, κ0 ∈ D → ¬ Owns ρ (.vec κ0) κ0 b := by
    intro l c κ b hl hne hk ho κ0 hκ0 ho0
    obtain ⟨c0, hc0⟩ := hD κ0 hκ0
    have := h.inj l c _ c0 κ κ0 b hl hc0 hk rfl ho ho0
    subst this
    exact hne κ hκ0 (by
      cases l with
      | slot n => simp [Loc.key] at hk
      | vec k => simp [Loc.key] at hk; rw [hk]
      | cell k j =>
        simp [Loc.key] at hk
        subst hk
        obtain ⟨_, b', _, _, _, _, e1, _⟩ := h.cell _ _ _ hl
        exact absurd e1 ((h.vec _ _ hc0).nptr _))
  have hsame : ∀ l c κ b, s l = some c → (∀ κ, κ ∈ D → l ≠ .vec κ) → l.key = some κ → Owns ρ l κ b → w'.heap[b]? = w.heap[b]? := fun l c κ b hl hne hk ho =>
    hheap b (h.live l c κ b hl hk ho).2.1 (hnot l c κ b hl hne hk ho)
  refine ⟨hos.trans h.os, htape.trans h.tape, hout.trans h.output, Nat.le_trans h.size hsize, ?_, ?_, h.g0, h.gnew, ?_, ?_, h.defers, h.ntmps, ?_, ?_, ?_, ?_, ?_⟩
  · intro b hb hm
    rw [hheap b (Nat.lt_of_lt_of_le hb h.size) fun κ hκ ho => ?_]
    · exact h.block b hb hm
    · rcases (hDl κ b hκ ho).2.2 with h1 | h1
      · exact hm h1.m
      · omega
  · intro b o ho
    rw [hheap b (lt_of_heap (h.gle b o ho)) fun κ hκ h1 => ?_]
    · exact h.gle b o ho
    · rw [(hDl κ b hκ h1).1] at ho; simp at ho
  · intro b c e f hb hF
    obtain ⟨c', g1, g2, g3⟩ := h.keep b c e f hb hF
    refine ⟨c', ?_, g2, g3⟩
    rw [hheap b (lt_of_heap g1) fun κ hκ ho => ?_]
    · exact g1
    · rcases (hDl κ b hκ ho).2.2 with ⟨κ1, h1, h2⟩ | h1
      · exact hF κ1 h1 h2
      · have := lt_of_heap hb; omega
  · intro κ hκ
    rw [hρ κ (.inl hκ)]; exact h.old κ hκ
  · intro l c κ b hl hk ho
    rcases hs l c hl with ⟨h1, h2⟩ | ⟨κ1, h1, rfl⟩
    · obtain ⟨q1, q2, q3⟩ := h.live l c κ b h1 hk (hold l c κ b h1 h2 hk ho)
      exact ⟨q1, Nat.lt_of_lt_of_le q2 hsize, q3⟩
    · simp only [Loc.key, Option.some.injEq] at hk
      subst hk
      obtain ⟨q1, q2⟩ := hown κ1 c b h1 hl ho
      rcases q2 with ⟨κ0, q2, q3⟩ | q2
      · obtain ⟨r1, r2, r3⟩ := hDl κ0 b q2 q3
        exact ⟨r1, q1, .inr r3⟩
      · refine ⟨?_, q1, .inr (.inr (Nat.le_trans h.size q2))⟩
        cases hg : G b with
        | none => rfl
        | some o => have := lt_of_heap (h.gle b o hg); omega
  · have hmix : ∀ l c κ κ1 c1 b, s l = some c → (∀ κ, κ ∈ D → l ≠ .vec κ) → l.key = some κ → Owns ρ l κ b → κ1 ∈ N → s' (.vec κ1) = some c1 → Owns ρ' (.vec κ1) κ1 b → False := by
      intro l c κ κ1 c1 b h1 h2 hk ho hN hc1 ho1
      rcases (hown κ1 c1 b hN hc1 ho1).2 with ⟨κ0, q2, q3⟩ | q2
      · exact hnot l c κ b h1 h2 hk ho κ0 q2 q3
      · have := (h.live l c κ b h1 hk ho).2.1
        omega
    intro l c l' c' κ κ' b hl hl' hk hk' ho ho'
    rcases hs l c hl with ⟨h1, h2⟩ | ⟨κ1, h1, rfl⟩
    · have ho := hold l c κ b h1 h2 hk ho
      rcases hs l' c' hl' with ⟨h3, h4⟩ | ⟨κ2, h3, rfl⟩
      · exact h.inj l c l' c' κ κ' b h1 h3 hk hk' ho (hold l' c' κ' b h3 h4 hk' ho')
      · simp only [Loc.key, Option.some.injEq] at hk'
        subst hk'
        exact (hmix l c κ κ2 c' b h1 h2 hk ho h3 hl' ho').elim
    · simp only [Loc.key, Option.some.injEq] at hk
      subst hk
      rcases hs l' c' hl' with ⟨h3, h4⟩ | ⟨κ2, h3, rfl⟩
      · exact (hmix l' c' κ' κ1 c b h3 h4 hk' (hold l' c' κ' b h3 h4 hk' ho') h1 hl ho).elim
      · simp only [Loc.key, Option.some.injEq] at hk'
        subst hk'
        exact hdis κ1 κ2 b h1 h3 ho ho'
  · intro n x hx
    rcases hs _ x hx with ⟨h1, _⟩ | ⟨κ1, _, e⟩
    · obtain ⟨v, y, e1, e2, e3⟩ := h.slot n x h1
      exact ⟨v, y, e1, e2, e3.move (fun _ _ h => h) fun κ hκ => hρ κ (.inr ⟨_, _, h1, .inr (by rw [e1]; exact hκ)⟩)⟩
    · simp at e
  · intro κ k x hx
    rcases hs _ x hx with ⟨h1, h2⟩ | ⟨κ1, _, e⟩
    · obtain ⟨y, b, u, c, e, e1, e2, e3, e4, e5⟩ := h.cell κ k x h1
      refine ⟨y, b, u, c, e, e1, by rw [hρ κ (.inr ⟨_, _, h1, .inl rfl⟩)]; exact e2, ?_, e4, e5.move (fun _ _ h => h) fun κ' hκ' => hρ κ' (.inr ⟨_, _, h1, .inr (by rw [e1]; exact hκ')⟩)⟩
      rw [hsame _ x κ b h1 h2 rfl (.inl (by rw [e2]; rfl))]; exact e3
    · simp at e
  · intro κ x hx
    rcases hs _ x hx with ⟨h1, h2⟩ | ⟨κ1, h1, e⟩
    · refine (h.vec κ x h1).ext (fun _ _ h => h) (hρ κ (.inr ⟨_, _, h1, .inl rfl⟩)) (hX κ (.inr ⟨_, _, h1, .inl rfl⟩) fun hκ => h2 κ hκ rfl) (fun k hk => hρ k (.inr ⟨_, _, h1, .inr hk⟩)) fun b hb => ?_
      exact hsame _ x κ b h1 h2 rfl hb
    · simp only [Loc.vec.injEq] at e
      subst e
      exact hcont κ x h1 hx
end Go.AM
