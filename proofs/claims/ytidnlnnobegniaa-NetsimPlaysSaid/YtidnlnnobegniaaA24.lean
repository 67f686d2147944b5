import Derived.Test.YtidnlnnobegniaaA23
set_option linter.unusedVariables false
set_option linter.unusedSimpArgs false
namespace Go.AM
open Go.RowKit
variable {C : Ctx} {Q : Exit → L → Prop} {σ : L}

/-! ### 30. Functions that only look at what they are handed -/
theorem adds_hit {l : Loc} : ∀ {D : L} {s : State}, (∃ c, (l, c) ∈ D) → ∃ c, applys s (adds D) l = some c ∧ (l, c) ∈ D
  | [], s, h => by obtain ⟨c, h⟩ := h; simp at h
  | (l1, c1) :: r, s, h => by
    rw [adds, applys_cons]
    by_cases hr : ∃ c, (l, c) ∈ r
    · obtain ⟨c, h1, h2⟩ := adds_hit (s := upd s l1 (some c1)) hr
      exact ⟨c, h1, by simp [h2]⟩
    · have hl : l = l1 := by
        obtain ⟨c, h⟩ := h
        simp only [List.mem_cons, Prod.mk.injEq] at h
        rcases h with ⟨h, _⟩ | h
        · exact h
        · exact absurd ⟨c, h⟩ hr
      subst hl
      refine ⟨c1, ?_, by simp⟩
      have : l ∉ (adds r).map (·.1) := by
        intro hm
        apply hr
        clear h hr
        induction r with
        | nil => simp [adds] at hm
        | cons p r ih =>
          obtain ⟨l2, c2⟩ := p
          simp only [adds, List.map_cons, List.mem_cons] at hm
          rcases hm with rfl | hm
          · exact ⟨c2, by simp⟩
          · obtain ⟨c, hc⟩ := ih hm; exact ⟨c, by simp [hc]⟩
      rw [applys_other _ this, upd_same]

theorem applys_again {D : L} {s : State} (h : ∀ l c, (l, c) ∈ D → s l = some c) : applys s (dels D ++ adds D) = s := by
  funext l
  rw [applys_append]
  by_cases hl : ∃ c, (l, c) ∈ D
  · obtain ⟨c, h1, h2⟩ := adds_hit (s := applys s (dels D)) hl
    rw [h1, h l c h2]
  · have key : ∀ (f : L → List (Loc × Option Cont)), (∀ D, (f D).map (·.1) = D.map (·.1)) → l ∉ (f D).map (·.1) := by
      intro f hf hm
      rw [hf] at hm
      obtain ⟨⟨l', c⟩, hc, rfl⟩ := List.mem_map.1 hm
      exact hl ⟨c, hc⟩
    have ha : ∀ D : L, (adds D).map (·.1) = D.map (·.1) := by
      intro D
      induction D with
      | nil => rfl
      | cons p r ih => obtain ⟨a, b⟩ := p; simp [adds, ih]
    have hd : ∀ D : L, (dels D).map (·.1) = D.map (·.1) := by
      intro D
      induction D with
      | nil => rfl
      | cons p r ih => obtain ⟨a, b⟩ := p; simp [dels, ih]
    rw [applys_other _ (key adds ha), applys_other _ (key dels hd)]

theorem fits_looks {f : FuncId} {o : Oper} {ys args : List V1} {rd : List (Loc × Cont)} {pre : L} {res : SV} {R : List (Nat × Nat)} (hd : dstB C.N o.dst = true) (he : Enters C σ o f ys rd) (hp : Does C.P f args pre res pre)
    (hs : All2 SubW ys (args.map (V1.rn R))) (hn : Names R pre pre res []) (hpre : AllIn (ren R pre) σ) (hpost : AllIn pre pre) :
    Fits C σ o ⟨rd ++ ren R pre, wrD o.dst (res.rn R), []⟩ := by
  have h := fits_does hd he hp hs hn hpre hpost (nk := []) (by simp)
  refine ⟨?_, h.rd, by simp⟩
  intro s a w K Q hr hh hf hK
  refine h.ok s a w K Q hr hh (by intro κ hκ; simp at hκ) fun a' w' hr' => hK a' w' ?_
  have h2 := (Reads.app.1 hh).2
  simp only at hr' ⊢
  rwa [applys_append, applys_again fun l c hm => h2 l c hm] at hr'

theorem runD_looks {K : L → List Action → Prop} {ds : List (Option Nat)} {P : Program} {f : FuncId} {o : Oper} {ys args : List V1} {rd : List (Loc × Cont)} {pre : L} {res : SV} {rest : List Oper} {acts : List Action} (R : List (Nat × Nat)) (hp : Does P f args pre res pre) (hc : callB P f = true) (hP : C.P = P)
    (hr : callR C ds σ o = some (f, ys, rd) ∨ dynR C ds σ o = some (f, ys, rd)) (hnm : namesB R [] pre pre res = true) (hs : All2 SubW ys (args.map (V1.rn R))) (hpre : AllIn (ren R pre) σ) (hpost : AllIn pre pre)
    (k : RunD C ds rest (applyL σ (wrD o.dst (res.rn R))) (acts ++ [⟨rd ++ ren R pre, wrD o.dst (res.rn R), []⟩]) K) : RunD C ds (o :: rest) σ acts K := by
  subst hP
  obtain ⟨gd, rd', he, hd, hg, rfl⟩ : ∃ gd rd', Enters C σ o f ys rd' ∧ dstB C.N o.dst = true ∧ guardR C ds o σ = some gd ∧ rd = gd ++ rd' := by
    rcases hr with hr | hr
    · exact callR_enters hc hr
    · exact dynR_enters hc hr
  have hn := (namesB_spec hnm).1
  simp only [List.append_nil, keys2] at hn
  unfold RunD
  refine guardR_sound hg (fits_looks hd he hp hs hn hpre hpost) ?_
  simpa using k
end Go.AM
