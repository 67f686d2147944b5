import Derived.Test.YtidnlnnobegniaaA12
set_option linter.unusedVariables false
set_option linter.unusedSimpArgs false
namespace Go.AM
open Go.RowKit

/-! ### 14. Regions by reckoning -/
/-- What the reckoning can't do: an action is to be given. -/
def RestK (C : Ctx) (o : Oper) (σ : L) (rd : List (Loc × Cont)) (K : L → Action → Prop) : Prop :=
  ∃ x, Fits C σ o x ∧ K (applyL σ x.wr) ⟨rd ++ x.rd, x.wr, x.new⟩

def stepK (C : Ctx) (ds : List (Option Nat)) (o : Oper) (σ : L) (K : L → Action → Prop) : Prop :=
  match o.guard with
  | none => RestK C o σ [] K
  | some (j, b) => match ds[j]? with
    | some (some d) => match look σ (.slot d) with
      | some (.s (.v (.one (.t (.lit (.bool c)))))) =>
        (c = b → RestK C o σ [(.slot d, boolS c)] K) ∧
        (c = !b → dstB C.N o.dst = true ∧ K (applyL σ (delD o.dst)) ⟨[(.slot d, boolS c)], delD o.dst, []⟩)
      | some (.s (.tup [])) => dstB C.N o.dst = true ∧ K (applyL σ (delD o.dst)) ⟨[(.slot d, undefS)], delD o.dst, []⟩
      | _ => False
    | _ => False

def RunD (C : Ctx) (ds : List (Option Nat)) : List Oper → L → List Action → (L → List Action → Prop) → Prop
  | [], σ, acts, K => K σ acts
  | o :: rest, σ, acts, K => stepK C ds o σ fun σ' x => RunD C ds rest σ' (acts ++ [x]) K

theorem put_same {σ : L} {l : Loc} {c : Cont} (h : look σ l = some c) : look (put σ l c) = look σ := by
  rw [look_put]
  funext x
  simp only [upd]
  split
  · rename_i e; rw [e, h]
  · rfl

theorem mentions_congr {s s' : State} (h : s = s') (κ : Nat) : Mentions s κ ↔ Mentions s' κ := by rw [h]

theorem stepK_sound {C : Ctx} {ops : Array Oper} {o : Oper} {σ : L} {K : L → Action → Prop} {i : Nat} (hi : ops[i]? = some o) (h : stepK C (ops.toList.map (·.dst)) o σ K) :
    ∃ x σ', StepOK C ops i x ∧ Reads x.rd (look σ) ∧ (∀ κ, κ ∈ x.new → ¬ Mentions (look σ) κ) ∧ look σ' = applys (look σ) x.wr ∧ K σ' x := by
  unfold stepK at h
  split at h
  · rename_i hn
    obtain ⟨x, hf, hk⟩ := h
    exact ⟨_, _, step_of_op hi hn hf.ok, hf.rd, hf.new, look_applyL _ _, hk⟩
  · rename_i j b hn
    split at h
    · rename_i d hd
      have hd' : (ops[j]?).bind (·.dst) = some d := by
        simp only [List.getElem?_map, Option.map_eq_some_iff] at hd
        obtain ⟨p, hp, he⟩ := hd
        have : ops[j]? = some p := by simpa using hp
        simp [this, he]
      split at h
      · rename_i c hc
        by_cases hcb : c = b
        · subst hcb
          obtain ⟨x, hf, hk⟩ := h.1 rfl
          refine ⟨_, _, ?_, ?_, ?_, ?_, hk⟩
          · exact step_guarded hi hn hd' hf.ok
          · exact r_app (r_one hc) hf.rd
          · exact hf.new
          · rw [look_applyL]
        · have hcb' : c = !b := by cases b <;> cases c <;> simp_all
          refine ⟨_, _, ?_, ?_, ?_, ?_, (h.2 hcb').2⟩
          · subst hcb'; exact step_unwanted (b := !b) hi (by simpa using hn) hd' (dstB_ok (h.2 rfl).1)
          · exact r_one hc
          · simp
          · rw [look_applyL]
      · rename_i hc
        refine ⟨_, _, step_unasked hi hn hd' (dstB_ok h.1), r_one hc, ?_, ?_, h.2⟩
        · simp
        · rw [look_applyL]
      · exact h.elim
    · exact h.elim

theorem runD_sound {C : Ctx} {ops : Array Oper} {K : L → List Action → Prop} : ∀ (os : List Oper) (i : Nat) (σ : L) (acts : List Action), (∀ k o, os[k]? = some o → ops[i + k]? = some o) → RunD C (ops.toList.map (·.dst)) os σ acts K →
    ∃ (l : List (Nat × Action)) (σ' : L), l.map (·.1) = List.range' i os.length ∧ RunsTo C ops l (look σ) (look σ') ∧ K σ' (acts ++ l.map (·.2))
  | [], i, σ, acts, _, h => ⟨[], σ, rfl, rfl, by simpa [RunD] using h⟩
  | o :: os, i, σ, acts, hos, h => by
    have hi : ops[i]? = some o := by simpa using hos 0 o rfl
    have hos' : ∀ k o', os[k]? = some o' → ops[i + 1 + k]? = some o' := fun k o' hk => by
      have := hos (k + 1) o' (by simpa using hk)
      rwa [show i + 1 + k = i + (k + 1) by omega]
    unfold RunD at h
    obtain ⟨x, σ1, h1, h2, h3, h4, h5⟩ := stepK_sound hi h
    obtain ⟨l, σ', g1, g2, g3⟩ := runD_sound os (i + 1) _ _ hos' h5
    refine ⟨(i, x) :: l, σ', ?_, ⟨h1, h2, h3, ?_⟩, by simpa using g3⟩
    · simp [List.range'_succ, g1]
    · rw [← h4]; exact g2

/-! ### 15. Code -/
def AWP (C : Ctx) (c : Code) (Q : Exit → L → Prop) (σ : L) : Prop :=
  ∀ a w, Rel C (look σ) a w → c.wp C.P (fun e a' w' => ∃ σ', Q e σ' ∧ Rel C (look σ') a' w') a w

variable {C : Ctx} {Q : Exit → L → Prop} {σ : L}

theorem awp_mono {c : Code} {Q' : Exit → L → Prop} (h : AWP C c Q σ) (hq : ∀ e σ', Q e σ' → Q' e σ') : AWP C c Q' σ :=
  fun a w hr => wp_mono (h a w hr) fun e a' w' ⟨σ', h1, h2⟩ => ⟨σ', hq e σ' h1, h2⟩

def thenL (next : L → Prop) (Q : Exit → L → Prop) : Exit → L → Prop
  | .normal, σ => next σ
  | e, σ => Q e σ

theorem awp_seq {x y : Code} (h : AWP C x (thenL (AWP C y Q) Q) σ) : AWP C (.seq x y) Q σ := by
  intro a w hr
  refine wp_seq (wp_mono (h a w hr) ?_)
  rintro e a' w' ⟨σ', h1, h2⟩
  cases e with
  | normal => exact h1 a' w' h2
  | _ => exact ⟨σ', h1, h2⟩

theorem awp_skip (h : Q .normal σ) : AWP C .skip Q σ := fun a w hr => wp_skip ⟨σ, h, hr⟩
theorem awp_exit {id : Nat} (h : Q (.exit id) σ) : AWP C (.exit id) Q σ := fun a w hr => wp_exit ⟨σ, h, hr⟩
theorem awp_ret (h : Q .ret σ) : AWP C .ret Q σ := fun a w hr => wp_ret ⟨σ, h, hr⟩

def blockL (id : Nat) (Q : Exit → L → Prop) : Exit → L → Prop
  | .exit id', σ => if id' = id then Q .normal σ else Q (.exit id') σ
  | e, σ => Q e σ

theorem awp_block {id : Nat} {c : Code} (h : AWP C c (blockL id Q) σ) : AWP C (.block id c) Q σ := by
  intro a w hr
  refine wp_block (wp_mono (h a w hr) ?_)
  rintro e a' w' ⟨σ', h1, h2⟩
  cases e with
  | exit id' =>
    simp only [blockL] at h1
    simp only [Exit.inBlock]
    split at h1
    · rename_i he; rw [if_pos he]; exact ⟨σ', h1, h2⟩
    · rename_i he; rw [if_neg he]; exact ⟨σ', h1, h2⟩
  | _ => exact ⟨σ', h1, h2⟩

def evB (σ : L) (c : Operand) : Option Bool :=
  match ev (look σ) c with
  | some y => litB y
  | none => none

theorem awp_cond {c : Operand} {x y : Code} {b : Bool} (hb : evB σ c = some b) (h1 : b = true → AWP C x Q σ) (h2 : b = false → AWP C y Q σ) : AWP C (.cond c x y) Q σ := by
  intro a w ⟨G, ρ, hr⟩
  unfold evB at hb
  split at hb
  · rename_i y' hy
    have := litB_rep hb (ev_rep hy (evr_self _ _) hr)
    cases b with
    | true => exact wp_cond_true this (h1 rfl a w ⟨G, ρ, hr⟩)
    | false => exact wp_cond_false this (h2 rfl a w ⟨G, ρ, hr⟩)
  · simp at hb

/-! #### any order -/
def locIn (l : Loc) : List Loc → Bool
  | [] => false
  | x :: r => decide (l = x) || locIn l r
theorem locIn_spec {l : Loc} : ∀ {r : List Loc}, locIn l r = false → l ∉ r
  | [], _ => by simp
  | x :: r, h => by
    simp only [locIn, Bool.or_eq_false_iff, decide_eq_false_iff_not] at h
    simp only [List.mem_cons, not_or]
    exact ⟨h.1, locIn_spec h.2⟩

def apartL (xs ys : List Loc) : Bool := xs.all fun l => !locIn l ys
theorem apartL_spec {xs ys : List Loc} (h : apartL xs ys = true) : ∀ l, l ∈ xs → l ∉ ys := by
  intro l hl
  have := List.all_eq_true.1 h l hl
  exact locIn_spec (by simpa using this)

def newApart (xs : List Nat) (ys : List Nat) : Bool := xs.all fun κ => notIn κ ys
theorem newApart_spec {xs ys : List Nat} (h : newApart xs ys = true) : ∀ κ, κ ∈ xs → κ ∉ ys := fun κ hκ => notIn_spec (List.all_eq_true.1 h κ hκ)

/-- What an action touches, without its values. -/
structure Bone where
  r : List Loc
  w : List Loc
  new : List Nat
  ment : List Nat

def bone (x : Action) : Bone := ⟨locsR x, locsW x, x.new, x.mentions⟩

def indepB (x y : Bone) : Bool :=
  apartL x.w y.w && apartL x.w y.r && apartL x.r y.w && newApart x.new y.ment && newApart y.new x.ment

theorem indepB_spec {x y : Action} (h : indepB (bone x) (bone y) = true) : Indep x y := by
  simp only [indepB, bone, Bool.and_eq_true] at h
  obtain ⟨⟨⟨⟨h1, h2⟩, h3⟩, h4⟩, h5⟩ := h
  exact ⟨apartL_spec h1, apartL_spec h2, apartL_spec h3, newApart_spec h4, newApart_spec h5⟩

/-- Whom an operation must come behind, directly or through others, as a mask: one row a operation. -/
def masks (ops : Array Oper) : Nat → List Nat
  | 0 => []
  | n + 1 => let m := masks ops n; m ++ [(preds ops n).foldl (fun a p => a ||| 2 ^ p ||| m.getD p 0) 0]

theorem masks_length (ops : Array Oper) : ∀ n, (masks ops n).length = n
  | 0 => rfl
  | n + 1 => by simp [masks, masks_length ops n]

theorem masks_spec (ops : Array Oper) : ∀ (n i j : Nat), i < n → ((masks ops n).getD i 0).testBit j = true → Reach ops j i
  | 0, i, j, h, _ => by omega
  | n + 1, i, j, h, ht => by
    simp only [masks] at ht
    have hl := masks_length ops n
    by_cases hi : i < n
    · rw [List.getD_eq_getElem?_getD, List.getElem?_append_left (by omega), ← List.getD_eq_getElem?_getD] at ht
      exact masks_spec ops n i j hi ht
    · have : i = n := by omega
      subst this
      rw [List.getD_eq_getElem?_getD, List.getElem?_append_right (by omega), hl] at ht
      simp only [Nat.sub_self, List.getElem?_cons_zero, Option.getD_some] at ht
      have key : ∀ (ps : List Nat) (a : Nat), (∀ p, p ∈ ps → p ∈ preds ops i) → (a.testBit j = true → Reach ops j i) → (ps.foldl (fun a p => a ||| 2 ^ p ||| (masks ops i).getD p 0) a).testBit j = true → Reach ops j i := by
        intro ps
        induction ps with
        | nil => intro a _ ha h; exact ha h
        | cons p ps ih =>
          intro a hp ha h
          refine ih _ (fun q hq => hp q (by simp [hq])) ?_ h
          intro h2
          simp only [Nat.testBit_or, Bool.or_eq_true, Nat.testBit_two_pow, decide_eq_true_eq] at h2
          rcases h2 with (h2 | h2) | h2
          · exact ha h2
          · subst h2; exact .one (hp p (by simp))
          · have hpi : p < i := by
              rcases Nat.lt_or_ge p i with h3 | h3
              · exact h3
              · rw [List.getD_eq_getElem?_getD, List.getElem?_eq_none (by omega)] at h2; simp at h2
            exact .step (hp p (by simp)) (masks_spec ops i p j hpi h2)
      exact key _ 0 (fun p hp => hp) (by simp) ht

def pairsOK (m : List Nat) : Nat → List Bone → Bool
  | _, [] => true
  | i, x :: r => (r.zipIdx (i + 1)).all (fun p => newApart p.1.new x.ment && (indepB x p.1 || (m.getD p.2 0).testBit i)) && pairsOK m (i + 1) r

def wfB (ops : Array Oper) : Bool := (List.range ops.size).all fun i => (preds ops i).all fun m => Nat.blt m i

theorem wfB_spec {ops : Array Oper} (h : wfB ops = true) : ∀ i m, m ∈ preds ops i → m < i := by
  intro i m hm
  by_cases hi : i < ops.size
  · have := List.all_eq_true.1 (List.all_eq_true.1 h i (List.mem_range.2 hi)) m hm
    simpa [Nat.blt_eq] using this
  · unfold preds at hm
    rw [Array.getElem?_eq_none (by omega)] at hm
    simp at hm

def drawOK (ops : Array Oper) (keys : List Nat) (bs : List Bone) : Bool :=
  wfB ops && bs.all (fun b => newApart b.new keys && b.new.all (Nat.blt · 100000)) && pairsOK (masks ops ops.size) 0 bs

theorem pairs_spec {ops : Array Oper} : ∀ (l : List (Nat × Action)) (i : Nat), i + l.length ≤ ops.size → l.map (·.1) = List.range' i l.length → pairsOK (masks ops ops.size) i ((l.map (·.2)).map bone) = true →
    (l.Pairwise fun p q => Indep p.2 q.2 ∨ Reach ops p.1 q.1) ∧ l.Pairwise fun p q => ∀ κ, κ ∈ q.2.new → κ ∉ p.2.mentions
  | [], i, _, _, _ => ⟨.nil, .nil⟩
  | p :: l, i, hlen, hm, h => by
    simp only [List.map_cons, pairsOK, Bool.and_eq_true] at h
    simp only [List.length_cons] at hlen
    simp only [List.map_cons, List.length_cons, List.range'_succ, List.cons.injEq] at hm
    obtain ⟨hp, hl⟩ := hm
    obtain ⟨r1, r2⟩ := pairs_spec l (i + 1) (by omega) hl h.2
    have h1 := List.all_eq_true.1 h.1
    have hq : ∀ q, q ∈ l → (newApart q.2.new p.2.mentions = true ∧ (indepB (bone p.2) (bone q.2) = true ∨ ((masks ops ops.size).getD q.1 0).testBit i = true)) ∧ q.1 < ops.size := by
      intro q hq
      obtain ⟨k, hk, rfl⟩ := List.mem_iff_getElem.1 hq
      have hqk : (l[k]).1 = i + 1 + k := by
        have := congrArg (fun x => x[k]?) hl
        simp [hk] at this
        omega
      have hin : (bone (l[k]).2, i + 1 + k) ∈ ((l.map (·.2)).map bone).zipIdx (i + 1) := by
        rw [List.mem_iff_getElem?]
        exact ⟨k, by simp [hk]⟩
      have := h1 _ hin
      simp only [Bool.and_eq_true, Bool.or_eq_true] at this
      rw [hqk]
      exact ⟨this, by omega⟩
    refine ⟨.cons (fun q hq' => ?_) r1, .cons (fun q hq' => newApart_spec (hq q hq').1.1) r2⟩
    rcases (hq q hq').1.2 with h2 | h2
    · exact .inl (indepB_spec h2)
    · right
      have := masks_spec ops ops.size q.1 i (hq q hq').2 h2
      rw [hp]; exact this

theorem awp_draw {id : Nat} {ops : Array Oper} (hm : C.P.follows .mixedOrders = true) (h : RunD C (ops.toList.map (·.dst)) ops.toList σ [] fun σ' acts => drawOK ops (keysL σ) (acts.map bone) = true ∧ Q .normal σ') : AWP C (.region id ops true) Q σ := by
  intro a w hr
  obtain ⟨l, σ', h1, h2, h3, h4⟩ := runD_sound ops.toList 0 σ [] (fun k o hk => by simpa using hk) h
  have hlen : l.length = ops.size := by have := congrArg List.length h1; simpa using this
  simp only [List.nil_append, drawOK, Bool.and_eq_true] at h3
  obtain ⟨⟨hwf, hfr⟩, hpr⟩ := h3
  obtain ⟨p1, p2⟩ := pairs_spec (ops := ops) l 0 (by omega) (by rw [h1]; simp [hlen]) hpr
  refine wp_draw hm (wfB_spec hwf) (by rw [h1]; simp [List.range_eq_range']) p1 ?_ hr fun a' w' hr' => ⟨σ', h4, hr'⟩
  have hall : ∀ (l : List (Nat × Action)) (s s' : State), RunsTo C ops l s s' → (∀ p, p ∈ l → StepOK C ops p.1 p.2) ∧ RunH l s s' := by
    intro l
    induction l with
    | nil => intro s s' h; exact ⟨by simp, h⟩
    | cons p l ih =>
      intro s s' h
      obtain ⟨g1, g2, _, g4⟩ := h
      obtain ⟨i1, i2⟩ := ih _ _ g4
      exact ⟨fun q hq => by rcases List.mem_cons.1 hq with rfl | hq; exact g1; exact i1 q hq, g2, i2⟩
  obtain ⟨q1, q2⟩ := hall l _ _ h2
  refine ⟨q1, fun p hp κ hκ hmn => ?_, p2, q2⟩
  have := List.all_eq_true.1 hfr (bone p.2) (List.mem_map.2 ⟨p.2, by simp; exact ⟨p.1, hp⟩, rfl⟩)
  simp only [Bool.and_eq_true] at this
  have hB : κ < keyB := by
    have := List.all_eq_true.1 this.2 κ hκ
    simpa [Nat.blt_eq, keyB] using this
  exact newApart_spec this.1 κ hκ (keysL_mentions hmn hB)

end Go.AM
