import Derived.Test.YtidnlnnobegniaaA22
set_option linter.unusedVariables false
set_option linter.unusedSimpArgs false
namespace Go.AM
open Go.RowKit
variable {C : Ctx} {Q : Exit → L → Prop} {σ : L}

/-! ### 29. A variable that is written no more -/
def At.fix (κ : Nat) (ts : List T) : At → At
  | .ptr κ' off => if κ' = κ then .tptr (ts.drop off) else .ptr κ' off
  | x => x
def V1.fix (κ : Nat) (ts : List T) : V1 → V1
  | .one x => .one (x.fix κ ts)
  | .agg cs => .agg (cs.map (At.fix κ ts))
def SV.fix (κ : Nat) (ts : List T) : SV → SV
  | .v x => .v (x.fix κ ts)
  | .tup xs => .tup (xs.map (V1.fix κ ts))
def Cont.fix (κ : Nat) (ts : List T) : Cont → Cont
  | .s x => .s (x.fix κ ts)
  | .c x => .c (x.fix κ ts)
  | .r sz e rows => .r sz e rows
  | .o g ks => .o g ks
def fixL (κ : Nat) (ts : List T) : L → L
  | [] => []
  | (.cell κ' k, c) :: r => if κ' = κ then fixL κ ts r else (.cell κ' k, c.fix κ ts) :: fixL κ ts r
  | (l, c) :: r => (l, c.fix κ ts) :: fixL κ ts r

theorem look_fixL {κ : Nat} {ts : List T} : ∀ {σ : L} {l : Loc} {c : Cont}, look (fixL κ ts σ) l = some c → ∃ c0, look σ l = some c0 ∧ c = c0.fix κ ts ∧ ∀ k, l ≠ .cell κ k
  | [], l, c, h => by simp [fixL, look] at h
  | (l1, c1) :: r, l, c, h => by
    have gen : look ((l1, c1.fix κ ts) :: fixL κ ts r) l = some c → (∀ k, l1 ≠ .cell κ k) → ∃ c0, look ((l1, c1) :: r) l = some c0 ∧ c = c0.fix κ ts ∧ ∀ k, l ≠ .cell κ k := by
      intro hg hl1
      simp only [look] at hg ⊢
      split at hg
      · rename_i e; subst e; injection hg with hg; exact ⟨c1, by simp, hg.symm, hl1⟩
      · rename_i hne
        obtain ⟨c0, h1, h2, h3⟩ := look_fixL hg
        exact ⟨c0, by rw [if_neg hne]; exact h1, h2, h3⟩
    cases l1 with
    | slot n => exact gen h (by simp)
    | vec n => exact gen h (by simp)
    | cell κ' k' =>
      simp only [fixL] at h
      split at h
      · rename_i e
        subst e
        obtain ⟨c0, h1, h2, h3⟩ := look_fixL h
        refine ⟨c0, ?_, h2, h3⟩
        simp only [look]
        rw [if_neg (h3 k')]; exact h1
      · rename_i hne
        exact gen h (by intro k e; simp only [Loc.cell.injEq] at e; exact hne e.1)

/-- The cells of a variable, all of them trees. -/
def cellsT (σ : L) (κ : Nat) : Nat → Nat → Option (List T)
  | _, 0 => some []
  | off, n + 1 => match look σ (.cell κ off) with
    | some (.c (.t x)) => match cellsT σ κ (off + 1) n with
      | some ts => some (x :: ts)
      | none => none
    | _ => none
theorem cellsT_spec {κ : Nat} : ∀ {n off : Nat} {ts : List T}, cellsT σ κ off n = some ts → ∀ (k : Nat) t, ts[k]? = some t → look σ (.cell κ (off + k)) = some (.c (.t t))
  | 0, off, ts, h, k, t, hk => by simp [cellsT] at h; subst h; simp at hk
  | n + 1, off, ts, h, k, t, hk => by
    simp only [cellsT] at h
    split at h
    · rename_i x hx
      split at h
      · rename_i ts' h2
        injection h with h
        subst h
        cases k with
        | zero => simp at hk; subst hk; exact hx
        | succ k => have := cellsT_spec h2 k t (by simpa using hk); rwa [show off + (k + 1) = off + 1 + k by omega]
      · simp at h
    · simp at h

theorem Imp.fixBox (κ n : Nat) {ts : List T} (hκ : κ < keyB) (h0 : cellsT σ κ 0 n = some ts) (hn : 0 < n) : Imp C σ (fixL κ ts σ) := by
  intro a w ⟨G, ρ, h⟩
  have hts := cellsT_spec h0
  have hlen : ts.length = n := by
    have : ∀ {n off : Nat} {ts : List T}, cellsT σ κ off n = some ts → ts.length = n := by
      intro n
      induction n with
      | zero => intro off ts h; simp [cellsT] at h; subst h; rfl
      | succ n ih =>
        intro off ts h
        simp only [cellsT] at h
        split at h
        · split at h
          · rename_i ts' h2
            injection h with h
            subst h
            simp [ih h2]
          · simp at h
        · simp at h
    exact this h0
  have hc0 : look σ (.cell κ 0) = some (.c (.t ts[0])) := by simpa using hts 0 _ (List.getElem?_eq_getElem (by omega))
  obtain ⟨y, b, u0, cur, e, e1, e2, e3, e4, e5⟩ := h.cell κ 0 _ hc0
  have hbk : blk (ρ κ) = some b := by rw [e2]; rfl
  obtain ⟨hGb, hblt, hmay⟩ := h.live _ _ κ b hc0 rfl (.inl hbk)
  let G' : Heap := fun b' => if b' = b then w.heap[b']? else G b'
  have hG : GExt G G' := fun b' o hb => by
    show (if b' = b then w.heap[b']? else G b') = some o
    split
    · exact h.gle b' o hb
    · exact hb
  have hle : GLe G' w := fun b' o hb => by
    change (if b' = b then w.heap[b']? else G b') = some o at hb
    split at hb
    · exact hb
    · exact h.gle b' o hb
  have hpt : ∀ (off k : Nat) t, (ts.drop off)[k]? = some t → ∃ u, gcell G' ((⟨b, off, none⟩ : Addr).add k) = some u ∧ u.oneCell' = true ∧ VRep G' u t := by
    intro off k t hk
    rw [List.getElem?_drop] at hk
    have hc := hts (off + k) t hk
    rw [Nat.zero_add] at hc
    obtain ⟨y', b', u, cur', e', g1, g2, g3, g4, g5⟩ := h.cell κ _ _ hc
    injection g1 with g1
    subst g1
    rw [e2] at g2
    simp at g2
    subst g2
    refine ⟨u, ?_, g5.1, g5.2.ext hG⟩
    rw [Addr.add_lit]
    simp only [gcell]
    have : G' b = some (.cells cur' e' (0, 0)) := by show (if b = b then w.heap[b]? else G b) = _; rw [if_pos rfl, g3]
    rw [this]
    simpa using g4
  have atfix : ∀ {v : Value} {x : At}, AtRep G ρ v x → AtRep G' ρ v (x.fix κ ts) := by
    intro v x hx
    cases x with
    | ptr κ' off =>
      simp only [At.fix]
      split
      · rename_i e; subst e
        obtain ⟨q1, b', q2, q3⟩ := hx
        rw [e2] at q2
        simp at q2
        subst q2
        exact ⟨q1, _, q3, hpt off⟩
      · exact hx.move hG fun _ _ => rfl
    | _ => exact hx.move hG fun _ _ => rfl
  have v1fix : ∀ {v : Value} {x : V1}, V1Rep G ρ v x → V1Rep G' ρ v (x.fix κ ts) := by
    intro v x hx
    cases x with
    | one x => exact atfix hx
    | agg cs =>
      obtain ⟨vs, e, hv⟩ := hx
      exact ⟨vs, e, hv.map_right fun _ _ => atfix⟩
  have svfix : ∀ {v : Value} {x : SV}, SVRep G ρ v x → SVRep G' ρ v (x.fix κ ts) := by
    intro v x hx
    cases x with
    | v x => exact v1fix hx
    | tup xs =>
      obtain ⟨vs, e, hv⟩ := hx
      exact ⟨vs, e, hv.map_right fun _ _ => v1fix⟩
  -- nothing else lies there
  have hoth : ∀ l c κ' b', look σ l = some c → (∀ k, l ≠ .cell κ k) → l.key = some κ' → Owns ρ l κ' b' → b' ≠ b := by
    rintro l c κ' b' hl hne hk hb' rfl
    have := h.inj l c _ _ κ' κ b' hl hc0 hk rfl hb' (.inl hbk)
    subst this
    cases l with
    | slot n => simp [Loc.key] at hk
    | cell κ2 k => simp [Loc.key] at hk; subst hk; exact hne k rfl
    | vec κ2 =>
      simp [Loc.key] at hk; subst hk
      have := vec_only h hl hc0 rfl
      simp at this
  refine ⟨G', ρ, h.os, h.tape, h.output, h.size, h.block, hle, fun b' o hb => hG b' o (h.g0 b' o hb), ?_, h.keep, h.old, h.defers, h.ntmps, ?_, ?_, ?_, ?_, ?_⟩
  · intro b' o hb
    change (if b' = b then w.heap[b']? else G b') = some o at hb
    split at hb
    · rename_i hb'; subst hb'
      rcases hmay with h1 | h1 | h1
      · omega
      · exact .inr (.inr h1)
      · exact .inr (.inl h1)
    · exact h.gnew b' o hb
  · intro l c κ' b' hl hk hb
    obtain ⟨c0, h1, _, hne⟩ := look_fixL hl
    obtain ⟨q1, q2, q3⟩ := h.live l c0 κ' b' h1 hk hb
    refine ⟨?_, q2, q3⟩
    show (if b' = b then w.heap[b']? else G b') = none
    rw [if_neg (hoth l c0 κ' b' h1 hne hk hb)]; exact q1
  · intro l c l' c' κ1 κ2 b' hl hl' hk hk'
    obtain ⟨c0, h1, _⟩ := look_fixL hl
    obtain ⟨c0', h1', _⟩ := look_fixL hl'
    exact h.inj l c0 l' c0' κ1 κ2 b' h1 h1' hk hk'
  · intro m x hx
    obtain ⟨c0, h1, rfl, _⟩ := look_fixL hx
    obtain ⟨v, y, f1, f2, f3⟩ := h.slot m c0 h1
    subst f1
    exact ⟨v, _, rfl, f2, svfix f3⟩
  · intro κ' k x hx
    obtain ⟨c0, h1, rfl, _⟩ := look_fixL hx
    obtain ⟨y, b', u, c, e', f1, f2, f3, f4, f5⟩ := h.cell κ' k c0 h1
    subst f1
    exact ⟨_, b', u, c, e', rfl, f2, f3, f4, atfix f5⟩
  · intro κ' x hx
    obtain ⟨c0, h1, rfl, _⟩ := look_fixL hx
    have f1 : ContRep G' w ρ κ' c0 := (h.vec κ' c0 h1).same hG fun _ _ => rfl
    cases c0 with
    | s _ => exact f1.elim
    | c _ => exact f1.elim
    | r _ _ _ => exact f1
    | o _ _ => exact f1

/-- A cell that holds nil, as a row of its own without elements. -/
theorem Imp.adoptC (κ k κ' sz : Nat) (e : TypeId) (h : notIn κ' (keysL σ) = true) (hB : κ' < keyB) (hn : look σ (.cell κ k) = some (.c (.t (.lit (.slice none 0 0))))) : Imp C σ (put (put σ (.vec κ') (.r sz e [])) (.cell κ k) (.c (.row κ'))) := by
  intro a w ⟨G, ρ, hr⟩
  have hm : ¬ Mentions (look σ) κ' := fun hm => notIn_spec h (keysL_mentions hm hB)
  have h1 := hr.newVec (κ := κ') hm (Grew.refl w) (v := .slice none 0 0) (sz := sz) (e := e) (rows := []) ⟨by simp, [], World.ownsRow_nil w 0 e sz, by simp⟩ (by simp [blk])
  obtain ⟨y, b, u, c, et, e1, e2, e3, e4, e5⟩ := hr.cell κ k _ hn
  injection e1 with e1
  subst e1
  have := e5.2.lit_inv
  subst this
  have hkk : κ ≠ κ' := by rintro rfl; exact hm (.inr ⟨_, _, hn, .inl rfl⟩)
  have h2 := h1.know (l := .cell κ k) (c := .c (.row κ')) (κ := κ) rfl
    (fun b' hb' => by
      exact hr.live _ _ κ b' hn rfl (setAt_owns_ne hkk hb'))
    (fun l' c' κ2 b' hl hk2 hb2 hb => by
      by_cases e1 : κ2 = κ'
      · subst e1; have hb2 := setAt_owns_same hb2; simp [blk] at hb2
      · have hb2 := setAt_owns_ne e1 hb2
        have hb := setAt_owns_ne hkk hb
        have hl2 : look σ l' = some c' := by
          rwa [upd_ne] at hl
          rintro rfl; simp [Loc.key] at hk2; exact e1 hk2.symm
        exact hr.inj l' c' _ _ κ2 κ b' hl2 hn hk2 rfl hb2 hb)
    (fun k' hk' => by
      simp only [Loc.cell.injEq, true_and] at hk'
      subst hk'
      exact ⟨.row κ', b, .slice none 0 0, c, et, rfl, by rw [setAt_ne _ _ hkk]; exact e2, e3, e4, rfl, (setAt_same _ _ _).symm, ⟨none, 0, 0, setAt_same _ _ _⟩⟩)
    (by simp)
  exact ⟨G, setAt ρ κ' (.slice none 0 0), by rw [look_put, look_put]; exact h2⟩

/-- A cell that holds nil, as a tree without elements. -/
theorem Imp.coeC (κ k sz : Nat) (hn : look σ (.cell κ k) = some (.c (.t (.lit (.slice none 0 0))))) : Imp C σ (put σ (.cell κ k) (.c (.t (.sl sz [])))) := by
  intro a w ⟨G, ρ, hr⟩
  obtain ⟨y, b, u, c, et, e1, e2, e3, e4, e5⟩ := hr.cell κ k _ hn
  injection e1 with e1
  subst e1
  have := e5.2.lit_inv
  subst this
  have h2 := hr.know (l := .cell κ k) (c := .c (.t (.sl sz []))) (κ := κ) rfl
    (fun b' hb' => hr.live _ _ κ b' hn rfl hb')
    (fun l' c' κ2 b' hl hk2 hb2 hb => hr.inj l' c' _ _ κ2 κ b' hl hn hk2 rfl hb2 hb)
    (fun k' hk' => by
      simp only [Loc.cell.injEq, true_and] at hk'
      subst hk'
      exact ⟨.t (.sl sz []), b, .slice none 0 0, c, et, rfl, e2, e3, e4, rfl, VRep.nil G sz⟩)
    (by simp)
  exact ⟨G, ρ, by rw [look_put]; exact h2⟩

/-- This is that region. -/
theorem isReg (n : Nat) {ops : Array Oper} {d : Bool} (h : AWP C (.region n ops d) Q σ) : AWP C (.region n ops d) Q σ := h
theorem Imp.fixE (κ n : Nat) {ts : List T} {τ : L} (hκ : κ < keyB) (h0 : cellsT σ κ 0 n = some ts) (hn : 0 < n) (he : fixL κ ts σ = τ) : Imp C σ τ := he ▸ Imp.fixBox κ n hκ h0 hn
theorem Imp.freezeE (κ : Nat) {sz : Nat} {e : TypeId} {rows : List (List T)} {τ : L} (hv : look σ (.vec κ) = some (.r sz e rows)) (he : freezeL κ (.sl sz rows) σ = τ) : Imp C σ τ := he ▸ Imp.freeze κ hv
theorem Imp.adoptCE (κ k κ' sz : Nat) (e : TypeId) {τ : L} (h : notIn κ' (keysL σ) = true) (hB : κ' < keyB) (hn : look σ (.cell κ k) = some (.c (.t (.lit (.slice none 0 0))))) (he : put (put σ (.vec κ') (.r sz e [])) (.cell κ k) (.c (.row κ')) = τ) : Imp C σ τ := he ▸ Imp.adoptC κ k κ' sz e h hB hn
theorem Imp.takeE (κ κ' : Nat) {c : Cont} {τ : L} (h1 : notIn κ' (keysL σ) = true) (h3 : look σ (.vec κ) = some c) (hB : κ' < keyB) (he : renL κ κ' σ = τ) : Imp C σ τ := Imp.take κ κ' h1 h3 hB (he ▸ Imp.refl _)
end Go.AM
